/- path.Parent; slices.Clone of texts. tree: fresh, fine. tree: look, place. tree: place. tree: Make. tree: file, Node, Count, Look, settle, Seal, Keep. -/
import Derived.Test.YtjnhnlabpccgjaaGreatM06
import Derived.Test.YtjnhnlabpccgjaaGreatM07
import Derived.BigQuiet
import Derived.Deep.QuietTactic
import Derived.Deep.RegionHeld3
import Derived.OwnWalk
import Derived.IntWalk
namespace Go.Proofs.YtjnhnlabpccgjaaGreat
open Go.ChangeShapes Go.WideShapes Go.ChangeAt Go.RowKit
set_option linter.unusedVariables false
abbrev I9 (B:Nat):Nat→Prop:=fun b=>B≤b
theorem Nb {w:World} {base:Nat} {e:TypeId} {v:Value} {n:Nat} {ss:List ByteArray} (h:w.ownsRow base e 1 v n (ss.map .string)) (hs:∀s∈ss,s.size≤maxLen):
  ∃a cap,v= .slice a n cap∧bB (I9 base) w a n ss:=by
 have h0:=h
 obtain⟨hl,h⟩:=h
 rcases h with⟨rfl,rfl⟩|⟨g,cap,cur,rfl,hb,hh,hn,hm,hsz,ht⟩
 ·obtain rfl:ss=[]:=by simpa using hl
  exact⟨none,0,rfl,ah.nil _ _ _,by simp⟩
 ·refine⟨_,cap,rfl,⟨by simpa using hl,by omega,fun _=>⟨g,0,rfl,hb,(Array.getElem?_eq_some_iff.1 hh).1,fun i hi=> ?_⟩⟩,hs⟩
  rw[Nat.zero_add,h0.cellAt i (by omega)]
theorem J7 {S:Nat→Prop} {w:World} {b off len:Nat} {ss:List ByteArray} (h:bB S w (some ⟨b,off,none⟩) len ss) (j:Nat) (hj:j<ss.length):
  w.cell? ⟨b,off+j,none⟩=some (.string (ss.getD j ByteArray.empty)):=by
 obtain⟨b',off',s,e,_,_,hs,_,hc⟩:=h.cell j (by have:=h.length;omega)
 simp only[Option.some.injEq,Addr.mk.injEq,and_true]at e
 obtain⟨rfl,rfl⟩:=e
 rw[hc]
 simp[List.getD,hs]
def QU (w:World) (n:Nat) (ss:List ByteArray) (e:Ending) (w':World):Prop:=
 ∃g cap,e= .returned (.slice (some ⟨g,0,none⟩) n cap)∧n≤cap∧bB (I9 w.heap.size) w' (some ⟨g,0,none⟩) n ss∧Below w.heap.size w w'
theorem uj {w:World} {base:Nat} {e:TypeId} {v:Value} {n:Nat} {ss:List ByteArray} (h:w.ownsRow base e 1 v n (ss.map .string)) (hs:∀s∈ss,s.size≤maxLen) (hv:v≠ .slice none 0 0):
  ∃g cap,v= .slice (some ⟨g,0,none⟩) n cap∧n≤cap∧bB (I9 base) w (some ⟨g,0,none⟩) n ss:=by
 obtain⟨a,cap,rfl,hS⟩:=Nb h hs
 obtain⟨_,h⟩:=h
 rcases h with⟨h,_⟩|⟨g,cap',cur,h,_,_,h2,_⟩
 ·exact absurd h hv
 ·simp only[Value.slice.injEq,true_and]at h
  obtain⟨rfl,rfl⟩:=h
  exact⟨g,_,rfl,h2,hS⟩
theorem Gm {S:Nat→Prop} (ad:Addr) (len cap:Nat) (ss:List ByteArray) (w:World) (h:bB S w (some ad) len ss) (hsz:len*16≤140737488355328):
  Calls Tryz.prog 163 #[.slice (some ad) len cap] w (QU w len ss):=by
 have hl:=h.length
 by_cases h0:len=0
 ·subst h0
  obtain rfl:ss=[]:=by simpa using hl
  refine(Tryz.slices_Clone_string_zero ad cap w).mono ?_
  rintro e w' ⟨v,rfl,ho,hv,hb⟩
  obtain⟨g,cap',rfl,hc,hS⟩:=uj (ss:=[]) (by simpa using ho) (by simp) hv
  exact⟨g,cap',rfl,hc,hS,hb⟩
 ·obtain⟨b,off,e,_,_,_⟩:=h.row.at_ (by omega)
  simp only[Option.some.injEq]at e
  subst e
  refine(Tryz.slices_Clone_string b off len cap ss w (by omega) hsz (fun j hj=>J7 h j hj)).mono ?_
  rintro e w' ⟨v,rfl,ho,hv,hb⟩
  rw[List.take_of_length_le (by omega)]at ho
  obtain⟨g,cap',rfl,hc,hS⟩:=uj ho h.short hv
  exact⟨g,cap',rfl,hc,hS,hb⟩
theorem bB.take {S:Nat→Prop} {w:World} {a:Option Addr} {len:Nat} {ss:List ByteArray} (h:bB S w a len ss) (k:Nat) (hk:k≤len):bB S w a k (ss.take k):=by
 have hl:=h.length
 refine⟨⟨by simp;omega,Nat.le_trans hk h.row.small,fun h0=> ?_⟩,fun s hs=>h.short s (List.mem_of_mem_take hs)⟩
 obtain⟨b,off,e,hS,hb,hc⟩:=h.row.at_ (by omega)
 refine⟨b,off,e,hS,hb,fun i hi=> ?_⟩
 rw[hc i (by omega),List.map_take,List.getElem?_take,if_pos hi]
def J8 (w:World) (ss:List ByteArray) (e:Ending) (w':World):Prop:=
 (ss=[]∧e= .returned (.tuple #[.slice none 0 0, .string ⟨#[]⟩, .int .i64 1])∧w=w')∨
 ∃g cap x,ss.getLast? =some x∧e= .returned (.tuple #[.slice (some ⟨g,0,none⟩) (ss.length-1) cap, .string x, .int .i64 0])∧ss.length-1≤cap∧bB (I9 w.heap.size) w' (some ⟨g,0,none⟩) (ss.length-1) ss.dropLast∧Below w.heap.size w w'
theorem Gn {S:Nat→Prop} (a:Option Addr) (len cap:Nat) (ss:List ByteArray) (w:World) (h:bB S w a len ss) (hsz:len*16≤140737488355328) (hcap:len≤cap):
  Calls Tryz.prog 135 #[.slice a len cap] w (J8 w ss):=by
 have hl:=h.length
 by_cases h0:len=0
 ·subst h0
  obtain rfl:ss=[]:=by simpa using hl
  go_enter Tryz.func135,Tryz.ntmps135
  go_wp2
  go_ret3
  exact Or.inl ⟨rfl,rfl,rfl⟩
 ·have hb0:((len:Int)==0)=false:=by simp[h0]
  obtain⟨n,rfl⟩:∃n,len=n+1:=⟨len-1,by omega⟩
  obtain⟨b,off,x,rfl,_,hbw,hx,hxs,hcell⟩:=h.cell n (by omega)
  have hT:∀w':World,w'.heap=w.heap→bB S w' (some ⟨b,off,none⟩) n (ss.take n):=fun w' e=>(h.take n (by omega)).kept (by rw[e];exact Nat.le_refl _) (fun _ _ _=>by rw[e])
  have hm:=h.row.small
  unfold maxLen at hm
  have e1:IntKind.i64.wrap (n:Int)=(n:Int):=IntWalk.i64_in _ (by omega)
  have e2:(0:Int)≤(n:Int):=by omega
  have e3:(n:Int)≤(cap:Int):=by omega
  have e5:n≤cap:=by omega
  have e4:(n:Int)<(n:Int)+1:=by omega
  have E1:=Lib.hid hx
  have E2:=Lib.hid hl
  clear hx hl h hm hb0
  have hb0:((n:Int)+1==0)=false:=by simp;omega
  go_enter Tryz.func135,Tryz.ntmps135
  go_wp2
  go_region_held3 (fun w'=>w'.cell? ⟨b,off+n,none⟩=some (.string x)) (first|exact hcell|(rw[hb1.cell (p:=⟨b,off+n,none⟩) hbw];exact hcell)) ((first|(go_at_call 163;refine(Gm (S:=S) _ _ _ (ss.take n) _ (hT w.drew rfl) (by omega)).mono ?_;rintro e w1 ⟨a1,cap1,rfl,hca,hS1,hb1⟩)))
  go_wp2
  go_ret3
  have hl:=E2.out
  have hlast:ss.getLast? =some x:=by
   rw[List.getLast?_eq_getElem?,hl];exact E1.out
  have hdl:ss.dropLast=ss.take n:=by rw[List.dropLast_eq_take,hl];rfl
  have hn1:ss.length-1=n:=by omega
  refine Or.inr ⟨a1,cap1,x,hlast,?_,?_,?_,⟨hb1.os,hb1.tape,hb1.output,hb1.size,hb1.block⟩⟩
  ·rw[hn1];rfl
  ·rw[hn1];exact hca
  ·rw[hn1,hdl];exact hS1
set_option linter.unusedSimpArgs false
theorem J9 (ls:List Nm):Bu (ls.map strOf)=dA ls:=by
 have:∀l:Nm,AV (strOf l)= !bV l:=fun l=>by simp[AV,strOf]
 unfold Bu dA
 rw[List.any_map,List.length_map]
 have e:AV∘strOf=fun x=> !bV x:=by funext l;exact this l
 rw[e]
theorem bU {w:World} {i:Nat} {cs:Array Value} {t:TypeId} (h:w.heap[i]? =some (.cells cs t)) (j:Nat):w.cell? ⟨i,j,none⟩=cs[j]? :=by simp[World.cell?,h]
def Nc (k kind:Int) (w:World) (e:Ending) (w':World):Prop:=
 e= .returned (ptr w.heap.size)∧iq (fun _=>False) w' k w.heap.size (w.heap.size+1) (bL kind)∧Below w.heap.size w w'∧w.heap.size<w'.heap.size∧(kind=2→w.heap.size+1<w'.heap.size)
set_option maxHeartbeats 1000000 in
theorem vE (k kind:Int) (w:World):Calls Tryz.prog 69 #[.int .i64 k, .int .i64 kind] w (Nc k kind w):=by
 have hmm:= @run_makeMap Tryz.prog
 by_cases hk:kind=2
 ·subst hk
  go_enter Tryz.func69,Tryz.ntmps69
  go_wp2
  go_ret
  refine⟨rfl,⟨⟨none,0,?_,⟨Nat.le_refl _,Nat.zero_le _⟩,ah.nil _ _ _⟩,fun _=> ?_⟩,?_,?_,fun _=> ?_⟩
  ·rw[Below.heap_alloc _ _ _ (by simp)]
   exact(MapKept.heap_alloc w _).1
  ·have:=MapAt.made (F:=fM) (w.alloc (.cells (gP k (bL 2) none 0 (w.heap.size+1)) 112))
   rw[World.size_alloc]at this
   exact this
  ·exact((Below.refl _ _).alloc (Nat.le_refl _) _).alloc (by simp) _
  ·simp;omega
  ·simp
 ·have hk':(kind==2)=false:=by simpa using hk
  go_enter Tryz.func69,Tryz.ntmps69
  go_wp2
  go_ret
  refine⟨rfl,⟨⟨none,0,?_,⟨Nat.le_refl _,Nat.zero_le _⟩,ah.nil _ _ _⟩,fun h=>absurd h hk⟩,(Below.refl _ _).alloc (Nat.le_refl _) _,by simp,fun h=>absurd h hk⟩
  have e1:gP k (bL kind) none 0 (w.heap.size+1)= #[.int .i64 k, .int .i64 kind, .int .i64 1, .int .i64 0, .int .u64 0, .bool false, .slice none 0 0, .map none]:=by
   simp[gP,bL,dU,hk]
  rw[e1]
  exact(MapKept.heap_alloc w _).1
def iJ:List (List Nm)→Int
 |[]=>0
 |p::r=>if dA p≠0 then dA p else iJ r
theorem yJ:∀(fO:List (List Nm)) (k:Nat) (ls:List Nm),iJ (fO.take k)=0→fO[k]? =some ls→dA ls≠0→iJ fO=dA ls
 |p::r,0,ls,_,h,hn=>by
  simp only[List.getElem?_cons_zero,Option.some.injEq]at h
  subst h
  rw[iJ,if_pos hn]
 |p::r,k+1,ls,h,h2,hn=>by
  simp only[List.take_succ_cons,iJ]at h
  by_cases hp:dA p≠0
  ·rw[if_pos hp]at h;exact absurd h hp
  ·rw[if_neg hp]at h
   rw[iJ,if_neg hp]
   exact yJ r k ls h (by simpa using h2) hn
theorem uo:∀(fO:List (List Nm)) (k:Nat) (ls:List Nm),iJ (fO.take k)=0→fO[k]? =some ls→dA ls=0→iJ (fO.take (k+1))=0
 |p::r,0,ls,_,h,hn=>by
  simp only[List.getElem?_cons_zero,Option.some.injEq]at h
  subst h
  simp[iJ,hn]
 |p::r,k+1,ls,h,h2,hn=>by
  simp only[List.take_succ_cons,iJ]at h⊢
  by_cases hp:dA p≠0
  ·rw[if_pos hp]at h;exact absurd h hp
  ·rw[if_neg hp]at h
   rw[if_neg hp]
   exact uo r k ls h (by simpa using h2) hn
set_option maxHeartbeats 1000000 in
theorem J_ {S:Nat→Prop} (B n:Nat) (fO:List (List Nm)) (w:World) (hn:n=fO.length) (hn2:n≤2) (hB:B<w.heap.size)
  (hc:∀k,k<n→∃a l c ls,w.cell? ⟨B,k,none⟩=some (.slice a l c)∧bB S w a l (ls.map strOf)∧fO[k]? =some ls):
  Calls Tryz.prog 70 #[.slice (some ⟨B,0,none⟩) n n] w fun e w'=>e= .returned (.int .i64 (iJ fO))∧Below w.heap.size w w':=by
 have HN:=Lib.hid hn
 have HC:=Lib.hid hc
 clear hn hc
 go_enter Tryz.func70,Tryz.ntmps70
 go_wp2
 go_loopw [8] (fun i wr=>∃k:Nat,k≤n∧i= .int .i64 k∧iJ (fO.take k)=0∧Below w.heap.size w wr) (fun i _=>n-(intOf i).toNat)
 case atStart=>exact⟨0,by omega,rfl,rfl,Below.refl _ _⟩
 case round=>
  obtain⟨k,hk,rfl,ha,hb⟩:=hrel
  have HA:=Lib.hid ha
  clear ha
  by_cases hlt:k<n
  ·obtain⟨a,l,c,ls,hcell,hS,hp⟩:=HC.out k hlt
   have hcell':=(hb.cell (p:=⟨B,k,none⟩) hB).trans hcell
   have hF:=M8 a l c (ls.map strOf) wr (hS.below hb (Nat.le_refl _))
   rw[J9]at hF
   have HF:=Lib.hid hF
   have HP:=Lib.hid hp
   clear hp hF hS hcell
   by_cases h0:dA ls=0
   ·have H0:=Lib.hid h0
    clear h0
    go_wp2_with fail
    (with_reducible refine HF.out.mono ?_)
    rintro e w1 ⟨rfl,hb1⟩
    rw[H0.out]
    go_wp2_with fail
    go_roundw
    case rel=>exact⟨k+1,by omega,by go_num,uo _ _ _ HA.out HP.out H0.out,hb.trans (hb1.mono hb.size)⟩
    case measure=>simp[intOf];omega
   ·have H0:=Lib.hid h0
    have hne:(dA ls==0)=false:=by simpa using h0
    have hne2:(dA ls !=0)=true:=by simpa using h0
    clear h0
    go_wp2_with fail
    (with_reducible refine HF.out.mono ?_)
    rintro e w1 ⟨rfl,hb1⟩
    go_wp2_with fail
    go_ret
    exact⟨gQ (yJ _ _ _ HA.out HP.out H0.out).symm,hb.trans (hb1.mono hb.size)⟩
  ·go_wp2
   go_ret
   exact⟨gQ (by have:=HA.out;rw[List.take_of_length_le (by have:=HN.out;omega)]at this;exact this.symm),hb⟩
theorem Tryz.cK (w:World):(zeroValue 107).run Tryz.prog w= .ok (.pointer none) w:=by kernel_rfl
theorem Tryz.jh (w:World):(zeroValue 3).run Tryz.prog w= .ok (.int .i64 0) w:=by kernel_rfl
theorem qC {k:Int} (h1:0≤k) (h2:k≤1000000):aW.ok k:=by
 simp[aW,Lit.wf,IntKind.min,IntKind.max,IntKind.signed,IntKind.bits];omega
theorem oM {a b:Int} {c d:Int} (h:(a,c)=(b,d)):Ending.returned (.tuple #[.int .i64 a, .int .i64 c])= .returned (.tuple #[.int .i64 b, .int .i64 d]):=by
 cases h;rfl
theorem yK {T:aA} {id:Int} {x:bq} {ls:List Nm} {k:Nat} {n:Nm} {j:Int} (hx:aj id T=some x) (hk2:x.kind=2) (hn:ls[k]? =some n) (hj:aj n x.names=some j):aL T id (ls.drop k)=aL T j (ls.drop (k+1)):=by
 obtain⟨hk,e⟩:=List.getElem?_eq_some_iff.1 hn
 rw[List.drop_eq_getElem_cons hk,e,aL,hx]
 simp only[hk2,if_pos,hj]
theorem yL {T:aA} {id:Int} {x:bq} {ls:List Nm} {k:Nat} {n:Nm} (hx:aj id T=some x) (hk2:x.kind≠2) (hn:ls[k]? =some n):aL T id (ls.drop k)=(0,23):=by
 obtain⟨hk,e⟩:=List.getElem?_eq_some_iff.1 hn
 rw[List.drop_eq_getElem_cons hk,e,aL,hx]
 simp only[if_neg hk2]
theorem yM {T:aA} {id:Int} {x:bq} {ls:List Nm} {k:Nat} {n:Nm} (hx:aj id T=some x) (hk2:x.kind=2) (hn:ls[k]? =some n) (hj:aj n x.names=none):aL T id (ls.drop k)=(0,20):=by
 obtain⟨hk,e⟩:=List.getElem?_eq_some_iff.1 hn
 rw[List.drop_eq_getElem_cons hk,e,aL,hx]
 simp only[hk2,if_pos,hj]
set_option maxHeartbeats 4000000 in
theorem Ea {S:Nat→Prop} {g:Nat→Own} {D:Nat→Prop} {p mb:Nat} {ib nb:Int→Nat} {T:aA} (a:Option Addr) (n c:Nat) (ls:List Nm) (w:World) (h:aH g D w p mb ib nb T) (hT:OkW T) (hS:bB S w a n (ls.map strOf)):
  Calls Tryz.prog 82 #[ptr p, .slice a n c] w fun e w'=>e= .returned (.tuple #[.int .i64 (aL T 0 ls).1, .int .i64 (aL T 0 ls).2])∧w=w':=by
 have hln:ls.length=n:=by have:=hS.length;simpa using this
 have hnm:=hS.row.small
 unfold maxLen at hnm
 obtain⟨hc0,hpw,hmw⟩:=h.cell
 have HH:=Lib.hid h
 have HT:=Lib.hid hT
 have HS:=Lib.hid hS
 have HL:=Lib.hid hln
 clear h hT hS hln
 go_enter Tryz.func82,Tryz.ntmps82
 go_wp2
 go_loop [6,14] (fun s i=>∃(k:Nat) (id:Int),k≤n∧i= .int .i64 k∧s= .int .i64 id∧(aj id T).isSome=true∧aL T id (ls.drop k)=aL T 0 ls) (fun _ i=>n-(intOf i).toNat)
 case atStart=>exact⟨0,0,by omega,rfl,rfl,iG HT.out,by simp⟩
 case round=>
  obtain⟨k,id,hk,rfl,rfl,hid,hlk⟩:=hrel
  obtain⟨x,hx⟩:=Option.isSome_iff_exists.1 hid
  have uq:=Lib.hid hlk
  have HX:=Lib.hid hx
  clear hlk hid hx
  have qL:=HT.out.ids id x HX.out
  have hok:aW.ok id:=qC qL.1 (by omega)
  obtain⟨c0,c1,c2,c3,c4,c5,c7,hiw⟩:=(HH.out.item id x HX.out).cell
  have hget:aj id (T.map fun q=>(q.1,ptr (ib q.1)))=some (ptr (ib id)):=by rw[dN,HX.out];rfl
  have HG:=Lib.hid hget
  clear hget
  have hmap:=Lib.hid HH.out.map
  by_cases hlt:k<n
  ·obtain⟨b,off,s,rfl,_,hbw,hs,hsz,hcell⟩:=HS.out.cell k hlt
   obtain⟨nm,hnm',rfl⟩:∃nm,ls[k]? =some nm∧strOf nm=s:=by
    rw[List.getElem?_map]at hs
    cases hq:ls[k]? with
    |none=>rw[hq]at hs;cases hs
    |some nm=>rw[hq]at hs;exact⟨nm,rfl,by simpa using hs⟩
   have HN:=Lib.hid hnm'
   have CG:fM.ok nm:=by show nm.length≤maxLen;rw[←iF];exact hsz
   clear hs hnm'
   by_cases hk2:x.kind=2
   ·have e2:dU x (nb id)= .map (some (nb id)):=if_pos hk2
    rw[e2]at c7
    rw[hk2]at c1
    have kI:=Lib.hid ((HH.out.item id x HX.out).names hk2)
    cases hj:aj nm x.names with
    |none=>
     have hgn:aj nm (dV x)=none:=by rw[jM,hj];rfl
     have MI:=Lib.hid hgn
     have hfin:=Lib.hid (yM HX.out hk2 HN.out hj)
     clear hgn hj e2 hk2
     go_wp2_with (first|(at_lookup;refine bW aW rfl _ _ 104 107 rfl Tryz.underlying104 (Tryz.cK _) rfl hmap.out id rfl hok ?_;rw[HG.out])|(at_lookup;refine aU fM rfl _ _ 110 3 rfl Tryz.underlying110 (Tryz.jh _) rfl kI.out nm rfl CG ?_;rw[MI.out]))
     go_ret2
     exact⟨oM (by rw[←uq.out,hfin.out]),rfl⟩
    |some j=>
     have hgn:aj nm (dV x)=some (.int .i64 j):=by rw[jM,hj];rfl
     have MI:=Lib.hid hgn
     have hfin:=Lib.hid (yK HX.out hk2 HN.out hj)
     have HJ:=Lib.hid ((HT.out.leads id x HX.out _ (bC hj)).1)
     clear hgn hj e2 hk2
     go_wp2_with (first|(at_lookup;refine bW aW rfl _ _ 104 107 rfl Tryz.underlying104 (Tryz.cK _) rfl hmap.out id rfl hok ?_;rw[HG.out])|(at_lookup;refine aU fM rfl _ _ 110 3 rfl Tryz.underlying110 (Tryz.jh _) rfl kI.out nm rfl CG ?_;rw[MI.out]))
     go_round
     case rel=>exact⟨k+1,j,by omega,by go_num,rfl,HJ.out,by rw[←hfin.out];exact uq.out⟩
     case measure=>simp[intOf];omega
   ·have e1:(x.kind==2)=false:=by simpa using hk2
    have hfin:=Lib.hid (yL HX.out hk2 HN.out)
    clear hk2 c7
    go_wp2_with (first|(at_lookup;refine bW aW rfl _ _ 104 107 rfl Tryz.underlying104 (Tryz.cK _) rfl hmap.out id rfl hok ?_;rw[HG.out]))
    go_ret2
    exact⟨oM (by rw[←uq.out,hfin.out]),rfl⟩
  ·clear c7
   go_wp2
   go_ret2
   exact⟨oM (by rw[←uq.out,List.drop_of_length_le (by have:=HL.out;omega)];rfl),rfl⟩
def uw (T:aA) (ib:Int→Nat) (ls:List Nm) (w:World) (e:Ending) (w':World):Prop:=
 e= .returned (.tuple #[if (aV T ls).2.2=0 then ptr (ib (aV T ls).1)else .pointer none, .string (strOf (aV T ls).2.1), .int .i64 (aV T ls).2.2])∧Below w.heap.size w w'
set_option maxHeartbeats 4000000 in
theorem BG {S:Nat→Prop} {g:Nat→Own} {D:Nat→Prop} {p mb:Nat} {ib nb:Int→Nat} {T:aA} (a:Option Addr) (n c:Nat) (ls:List Nm) (w:World) (h:aH g D w p mb ib nb T) (hT:eH T) (hS:bB S w a n (ls.map strOf)) (hc:n≤c) (pO:n≤1000000):
  Calls Tryz.prog 71 #[ptr p, .slice a n c] w (uw T ib ls w):=by
 have hln:ls.length=n:=by have:=hS.length;simpa using this
 have HH:=Lib.hid h
 have HT:=Lib.hid hT
 have HL:=Lib.hid hln
 have hpar:=Gn a n c (ls.map strOf) w hS (by omega) hc
 have HP:=Lib.hid hpar
 clear h hT hS hln hpar
 by_cases hl0:ls=[]
 ·subst hl0
  go_enter Tryz.func71,Tryz.ntmps71
  go_wp2_with fail
  (with_reducible refine HP.out.mono ?_)
  rintro e w1 (⟨_,rfl,rfl⟩|⟨_,_,x,hx,_⟩)
  ·go_wp2_with fail
   go_ret3
   exact⟨rfl,Below.refl _ _⟩
  ·cases hx
 ·have UW:=Lib.hid hl0
  clear hl0
  go_enter Tryz.func71,Tryz.ntmps71
  go_wp2_with fail
  (with_reducible refine HP.out.mono ?_)
  rintro e w1 (⟨h0,_⟩|⟨gb,cap,x,hx,rfl,hca,hS1,hb1⟩)
  ·exact absurd (List.map_eq_nil_iff.1 h0) UW.out
  ·have hdl:(ls.map strOf).dropLast=ls.dropLast.map strOf:=by simp[List.map_dropLast]
   rw[hdl]at hS1
   have hxl:x=strOf (ls.getLastD []):=by
    rw[List.getLast?_map]at hx
    cases hq:ls.getLast? with
    |none=>rw[hq]at hx;cases hx
    |some y=>
     rw[hq]at hx
     simp only[Option.map_some,Option.some.injEq]at hx
     rw[←hx]
     cases ls with
     |nil=>cases hq
     |cons z r=>rw[List.getLast?_eq_some_getLast (by simp)]at hq;simp only[Option.some.injEq]at hq;rw[←hq,List.getLastD_eq_getLast?,List.getLast?_eq_some_getLast (by simp)];rfl
   subst hxl
   obtain⟨m,hm⟩:∃m,m=(ls.map strOf).length-1:=⟨_,rfl⟩
   obtain⟨nl,hnl⟩:∃nl,nl=ls.getLastD []:=⟨_,rfl⟩
   rw[←hm]at hS1 hca⊢
   rw[←hnl]at hx⊢
   have Nf:=Lib.hid hnl
   clear hm hnl
   have hb1s:=hb1.size
   have hA1:=HH.out.below hb1 (Nat.le_refl _)
   have uq:=Lib.hid (Ea (some ⟨gb,0,none⟩) m cap ls.dropLast w1 hA1 HT.out hS1)
   have HA1:=Lib.hid hA1
   have HB1:=Lib.hid hb1
   clear hA1 hb1 hx hdl hS1 HP hca
   obtain⟨hc0,hpw,hmw⟩:=HA1.out.cell
   have hmap:=Lib.hid HA1.out.map
   by_cases he:(aL T 0 ls.dropLast).2=0
   ·obtain⟨y,hy⟩:=Option.isSome_iff_exists.1 (jZ HT.out ls.dropLast 0 (iG HT.out) he)
    have HE:=Lib.hid he
    obtain⟨d,hd⟩:∃d,d=(aL T 0 ls.dropLast).1:=⟨_,rfl⟩
    rw[←hd]at hy uq
    rw[he]at uq
    have HD:=Lib.hid hd
    have HY:=Lib.hid hy
    clear hy he hd
    have qL:=HT.out.ids d y HY.out
    have hok:aW.ok d:=qC qL.1 (by omega)
    obtain⟨c0,c1,c2,c3,c4,c5,c7,hiw⟩:=(HA1.out.item d y HY.out).cell
    have hget:aj d (T.map fun q=>(q.1,ptr (ib q.1)))=some (ptr (ib d)):=by rw[dN,HY.out];rfl
    have HG:=Lib.hid hget
    have hkm:bI T (aL T 0 ls.dropLast).1=y.kind:=by rw[←HD.out];unfold bI;rw[HY.out]
    have HKM:=Lib.hid hkm
    clear hget hkm c7
    by_cases hk2:y.kind=2
    ·have hpl:aV T ls=(d,nl,0):=by
      unfold aV
      rw[if_neg UW.out,if_neg (by rw[HE.out];simp),if_pos (HKM.out.trans hk2),←HD.out,←Nf.out]
     have FX:=Lib.hid hpl
     rw[hk2]at c1
     clear hk2 hpl
     go_wp2_with fail
     (with_reducible refine uq.out.mono ?_)
     rintro e w2 ⟨rfl,rfl⟩
     go_wp2_with (first|(at_lookup;refine bW aW rfl _ _ 104 107 rfl Tryz.underlying104 (Tryz.cK _) rfl hmap.out d rfl hok ?_;rw[HG.out]))
     go_ret3
     exact⟨by rw[FX.out];rfl,HB1.out⟩
    ·have hpl:aV T ls=(0,[],23):=by
      unfold aV
      rw[if_neg UW.out,if_neg (by rw[HE.out];simp),if_neg (by rw[HKM.out];exact hk2)]
     have FX:=Lib.hid hpl
     have e1:(y.kind==2)=false:=by simpa using hk2
     clear hk2 hpl
     go_wp2_with fail
     (with_reducible refine uq.out.mono ?_)
     rintro e w2 ⟨rfl,rfl⟩
     go_wp2_with (first|(at_lookup;refine bW aW rfl _ _ 104 107 rfl Tryz.underlying104 (Tryz.cK _) rfl hmap.out d rfl hok ?_;rw[HG.out]))
     go_ret3
     exact⟨by rw[FX.out];rfl,HB1.out⟩
   ·have hpl:aV T ls=(0,[],(aL T 0 ls.dropLast).2):=by
     unfold aV
     rw[if_neg UW.out,if_pos he]
    have hne:((aL T 0 ls.dropLast).2==0)=false:=by simpa using he
    have FX:=Lib.hid hpl
    have HE:=Lib.hid he
    generalize hgg:aL T 0 ls.dropLast=r at uq hne HE FX
    have HGG:=Lib.hid hgg
    clear hpl he hgg
    go_wp2_with fail
    (with_reducible refine uq.out.mono ?_)
    rintro e w2 ⟨rfl,rfl⟩
    go_wp2_with fail
    go_ret3
    exact⟨by rw[FX.out,if_neg HE.out];rfl,HB1.out⟩
def Turn (g:Nat→Own) (D:Nat→Prop) (w:World) (p mb:Nat) (T':aA) (v:Value) (e:Ending) (w':World):Prop:=
 e= .returned v∧∃g' D' MJ nb',aH g' D' w' p mb MJ nb' T'∧(∀b,g' b≠ .none→g b≠ .none∨w.heap.size≤b)∧(∀b,D' b→D b∨w.heap.size≤b)∧Keeps (fun b=>g b≠ .none) w w'
theorem Turn.same {g:Nat→Own} {D:Nat→Prop} {w w':World} {p mb:Nat} {ib nb:Int→Nat} {T:aA} {v:Value} {e:Ending} (h:aH g D w p mb ib nb T) (hb:Below w.heap.size w w') (he:e= .returned v):Turn g D w p mb T v e w':=
 ⟨he,g,D,ib,nb,h.below hb (Nat.le_refl _),fun b h=> .inl h,fun b h=> .inl h,(Keeps.below hb).mono fun x hx hx'=>absurd hx (by omega)⟩
theorem nV {T:aA} {p:List Nm} (hT:eH T) (h:(aV T p).2.2=0):∃x,aj (aV T p).1 T=some x∧x.kind=2∧(aV T p).2.1∈p:=by
 unfold aV at h⊢
 by_cases h0:p=[]
 ·rw[if_pos h0]at h;cases h
 ·rw[if_neg h0]at h⊢
  by_cases h1:(aL T 0 p.dropLast).2≠0
  ·rw[if_pos h1]at h;exact absurd h h1
  ·rw[if_neg h1]at h⊢
   by_cases h2:bI T (aL T 0 p.dropLast).1=2
   ·rw[if_pos h2]
    obtain⟨x,hx,hk⟩:=fu h2
    refine⟨x,hx,hk,?_⟩
    cases p with
    |nil=>exact absurd rfl h0
    |cons z r=>simp[List.getLastD_eq_getLast?,List.getLast?_eq_some_getLast]
   ·rw[if_neg h2]at h;cases h
theorem sW {p:List Nm} (h:dA p=0):∀n∈p,bV n=true:=by
 unfold dA at h
 split at h
 ·cases h
 ·rename_i h1
  intro n hn
  have h2:(p.any fun x=> !bV x)=false:=by simpa only[Bool.not_eq_true]using h1
  have:=List.any_eq_false.1 h2 n hn
  simpa using this
theorem Ka {p:List Nm} (h:dA p=0):p.length≤8:=by
 unfold dA at h
 split at h
 ·cases h
 ·split at h
  ·cases h
  ·omega
theorem yN (l:List UInt8) (h:bV l=true):l.length≤16:=by
 simp only[bV,Bool.and_eq_true,decide_eq_true_eq]at h
 exact h.1.1.2
theorem Ng (p:List Nm):iJ [p]=dA p:=by
 unfold iJ iJ
 by_cases h:dA p≠0
 ·rw[if_pos h]
 ·rw[if_neg h];omega
theorem jN {w:World} {v:Value} {t:TypeId}:(w.alloc (.cells #[v] t)).cell? ⟨w.heap.size,0,none⟩=some v:=by
 simp only[World.cell?,(MapKept.heap_alloc w _).1];rfl
theorem uy {w:World} {u v:Value} {t:TypeId}:(w.alloc (.cells #[u,v] t)).cell? ⟨w.heap.size,0,none⟩=some u∧(w.alloc (.cells #[u,v] t)).cell? ⟨w.heap.size,1,none⟩=some v:=by
 simp only[World.cell?,(MapKept.heap_alloc w _).1];exact⟨rfl,rfl⟩
theorem wall (w:World) (o:Obj):Below w.heap.size w (w.alloc o):=(Below.refl _ _).alloc (Nat.le_refl _) _
theorem Eb {S:Nat→Prop} (a:Option Addr) (n c:Nat) (ls:List Nm) (w:World) (hS:bB S w a n (ls.map strOf)):
  Calls Tryz.prog 70 #[.slice (some ⟨w.heap.size,0,none⟩) 1 1] (w.alloc (.cells #[.slice a n c] 61)) fun e w'=>e= .returned (.int .i64 (dA ls))∧Below w.heap.size w w':=by
 refine(J_ (S:=S) w.heap.size 1 [ls] _ rfl (by omega) (by simp) (fun k hk=> ?_)).mono ?_
 ·obtain rfl:k=0:=by omega
  exact⟨a,n,c,ls,jN,hS.below (wall w _) (Nat.le_refl _),rfl⟩
 ·rintro e w' ⟨rfl,hb⟩
  rw[Ng]
  exact⟨rfl,(wall w _).trans (hb.mono (by simp))⟩
theorem AZ {w w':World} {b:Nat} (h:w.mapTurned w' b):Keeps (fun x=>x=b) w w':=Keeps.turned h
theorem bX {w w':World} {b:Nat} (h:w.mapTurned w' b) (x:Nat) (hx:x<w.heap.size) (hn:x≠b):w'.heap[x]? =w.heap[x]? :=(AZ h).block x hx hn
theorem fT {w w':World} {b:Nat} (h:w.mapTurned w' b):Keeps (fun x=>x=b) w w':=Keeps.turned h
theorem aH.names {g:Nat→Own} {D:Nat→Prop} {w w':World} {p mb:Nat} {ib nb:Int→Nat} {T:aA} (h:aH g D w p mb ib nb T) {d:Int} {x:bq} {l:List (Nm×Int)} (hx:aj d T=some x) (hk:x.kind=2) (hM:MapAt fM w' (nb d) (dV {x with names:=l})) (hT:w.mapTurned w' (nb d)) (f:bq→bq) (hf:f x={x with names:=l}):
  aH g D w' p mb ib nb (Go.Proofs.YtjnhnlabpccgjaaGreat.aX d f T):=by
 have hs:=iC hT
 have hn:=h.kZ d x hx hk
 refine h.aX hx (by rw[hf]) (fun _ h=>h) (fun b hb=>⟨h.data b hb,by rw[hs];exact h.mh b hb⟩) (by omega) (fun b hb h1 h2=>bX hT b hb (fun e=>h2 (by rw[e];exact hn))) ?_
 have hb:∀b,b<w.heap.size→g b≠ .names d→w'.heap[b]? =w.heap[b]? :=fun b hb h2=>bX hT b hb (fun e=>h2 (by rw[e];exact hn))
 have hi:=h.item d x hx
 have ti:=h.nk d x hx
 obtain⟨a,c,h1,h2,h3⟩:=hi.cells
 rw[hf]
 refine⟨⟨a,c,(hb _ (h.low _ (by rw[ti];simp)) (by rw[ti];simp)).trans h1,h2,h3.kept (by omega) fun b hD hbw=>hb b hbw (by rw[h.data b hD];simp)⟩,fun _=>hM⟩
theorem aH.set {g:Nat→Own} {D:Nat→Prop} {w w':World} {p mb:Nat} {ib nb:Int→Nat} {T:aA} (h:aH g D w p mb ib nb T) {d id:Int} {x:bq} {n:Nm} (hx:aj d T=some x) (hk:x.kind=2) (hM:MapAt fM w' (nb d) (bM fM.lt n (.int .i64 id) (dV x))) (hT:w.mapTurned w' (nb d)):
  aH g D w' p mb ib nb (setName T d n id):=by
 refine h.names (l:=bM bytesBefore n id x.names) hx hk ?_ hT _ rfl
 have e:dV {x with names:=bM bytesBefore n id x.names}=bM fM.lt n (.int .i64 id) (dV x):=rU bytesBefore (fun(_:Nm) (i:Int)=>Value.int .i64 i) n id x.names
 rw[e]
 exact hM
theorem aH.cut {g:Nat→Own} {D:Nat→Prop} {w w':World} {p mb:Nat} {ib nb:Int→Nat} {T:aA} (h:aH g D w p mb ib nb T) {d:Int} {x:bq} {n:Nm} (hx:aj d T=some x) (hk:x.kind=2) (hM:MapAt fM w' (nb d) (bF n (dV x))) (hT:w.mapTurned w' (nb d)):
  aH g D w' p mb ib nb (aJ T d n):=by
 refine h.names (l:=bF n x.names) hx hk ?_ hT _ rfl
 have e:dV {x with names:=bF n x.names}=bF n (dV x):=vB (fun(_:Nm) (i:Int)=>Value.int .i64 i) n x.names
 rw[e]
 exact hM
theorem Nh {g:Nat→Own} {D:Nat→Prop} {w w3 w4:World} {p mb:Nat} {ib nb:Int→Nat} {T:aA} {f kind:Int} (h:aH g D w p mb ib nb T) (hf:aj f T=none) (hi:iq (fun _=>False) w3 f w.heap.size (w.heap.size+1) (bL kind)) (hb:Below w.heap.size w w3) (hs:w.heap.size<w3.heap.size) (hs2:kind=2→w.heap.size+1<w3.heap.size)
  (hM:MapAt aW w4 mb (bM aW.lt f (ptr w.heap.size) (T.map fun q=>(q.1,ptr (ib q.1))))) (hT:w3.mapTurned w4 mb):
  ∃g1 TI TJ,aH g1 D w4 p mb TI TJ (bM fQ f (bL kind) T)∧(∀b,g1 b≠ .none→g b≠ .none∨w.heap.size≤b)∧Keeps (fun b=>g b≠ .none) w w4∧∀j,j≠f→TI j=ib j∧TJ j=nb j:=by
 have hsz:=iC hT
 have hK:=fT hT
 have hmw:=h.map.lt
 refine⟨_,_,_,h.add (i:=w.heap.size) (n:=w.heap.size+1) (x:=bL kind) (k:=f) (Nat.le_refl _) (by omega) (by omega) (by omega) (fun hk=>by have:=hs2 hk;omega) hf rfl hM (by omega) (fun b hbw X0=>(hK.block b (by omega) X0).trans (hb.block b hbw)) (hi.move (by omega) (hK.block _ hs (by omega)) (fun hk=>hK.block _ (hs2 hk) (by omega)) (fun _ h=>h.elim)),fun b hb1=> ?_,⟨hK.os.trans hb.os,hK.tape.trans hb.tape,hK.output.trans hb.output,by omega,fun b hbw hbg=>(hK.block b (by omega) (fun e=>hbg (by rw[e,h.iH];simp))).trans (hb.block b hbw)⟩,fun j hj=>⟨by simp[hj],by simp[hj]⟩⟩
 by_cases hbi:w.heap.size≤b
 ·exact .inr hbi
 ·simp only[if_neg (show ¬b=w.heap.size by omega),if_neg (show ¬(b=w.heap.size+1∧(bL kind).kind=2)by omega)]at hb1
  exact .inl hb1
theorem Ni {g g1:Nat→Own} {w w2 w4 w5:World} {nd:Nat} (hb2:Below w.heap.size w w2) (hg1:∀b,g1 b≠ .none→g b≠ .none∨w2.drew.heap.size≤b) (hK4:Keeps (fun b=>g b≠ .none) w2.drew w4) (Qz:w4.mapTurned w5 nd) (hnd:g1 nd≠ .none):
  (∀b,g1 b≠ .none→g b≠ .none∨w.heap.size≤b)∧Keeps (fun b=>g b≠ .none) w w5:=by
 have hs:=hb2.size
 have hK:=fT Qz
 have h4:w2.heap.size≤w4.heap.size:=hK4.size
 have h5:=hK.size
 refine⟨fun b hb=>(hg1 b hb).imp id fun h=>Nat.le_trans hs h,hK.os.trans (hK4.os.trans hb2.os),hK.tape.trans (hK4.tape.trans hb2.tape),hK.output.trans (hK4.output.trans hb2.output),by omega,fun b hb hbg=> ?_⟩
 have h6:b≠nd:=fun e=>by
  rcases hg1 b (by rw[e];exact hnd)with h|h
  ·exact hbg h
  ·have:w2.heap.size≤b:=h
   omega
 exact(hK.block b (by omega) h6).trans ((hK4.block b (show b<w2.heap.size by omega) hbg).trans (hb2.block b hb))
set_option maxRecDepth 100000 in
set_option maxHeartbeats 8000000 in
theorem QV {S:Nat→Prop} {g:Nat→Own} {D:Nat→Prop} {p mb:Nat} {ib nb:Int→Nat} {T:aA} (a:Option Addr) (n c:Nat) (ls:List Nm) (kind:Int) (w:World) (h:aH g D w p mb ib nb T) (hT:eH T) (hS:bB S w a n (ls.map strOf)) (hc:n≤c) (pO:n≤1000000):
  Calls Tryz.prog 27 #[ptr p, .slice a n c, .int .i64 kind] w (Turn g D w p mb (dK T ls kind).2 (.tuple #[.int .i64 (dK T ls kind).1.1, .int .i64 (dK T ls kind).1.2])):=by
 have HH:=Lib.hid h
 have HT:=Lib.hid hT
 have HS:=Lib.hid hS
 have HF:=Lib.hid (Eb (S:=S) a n c ls w hS)
 clear h hT hS
 by_cases hf:dA ls=0
 ·have A_:=Lib.hid hf
  rw[hf]at HF
  clear hf
  by_cases hk:kind=1∨kind=2
  ·have HK:=Lib.hid hk
   have FX:=Lib.hid (fun w1 (hb:Below w.heap.size w w1)=>BG a n c ls w1 (HH.out.below hb (Nat.le_refl _)) HT.out (HS.out.below hb (Nat.le_refl _)) hc pO)
   by_cases hp:(aV T ls).2.2=0
   ·obtain⟨x,hx,hxk,hnm⟩:=nV HT.out hp
    have hgn:=sW A_.out _ hnm
    have HPE:=Lib.hid hp
    obtain⟨⟨d,nm,z⟩,hq⟩:∃q,q=aV T ls:=⟨_,rfl⟩
    unfold uw at FX
    rw[←hq]at hp hx hnm hgn FX
    obtain rfl:z=0:=hp
    have HQ:=Lib.hid hq
    have HX:=Lib.hid hx
    have HG:=Lib.hid hgn
    have Kc:=Lib.hid hxk
    clear hq hx hgn hxk hnm
    have qL:=HT.out.ids d x HX.out
    have hlen:=HT.out.len
    have CG:fM.ok nm:=by
     have:=yN nm HG.out
     show nm.length≤maxLen
     unfold maxLen;omega
    have TK:Hid (∀k,(64≤T.length→k=4)→(T.length<64→k=0)→jw T ls kind=if (aj nm x.names).isSome then 21 else k):=fun k h4 h0=>by
     unfold jw
     have e1:aY T d=x.names:=by unfold aY;rw[HX.out]
     rw[if_neg (by rw[A_.out];simp),if_neg (fun h=>h hk),←HQ.out,if_neg (by simp),e1]
     by_cases h64:64≤T.length
     ·rw[if_pos h64,h4 h64]
     ·rw[if_neg h64,h0 (by omega)]
    have yO:Hid (∀w2,Below w.heap.size w w2→w2.cell? ⟨ib d,7,none⟩=some (.map (some (nb d)))∧MapAt fM w2 (nb d) (dV x)∧w2.cell? ⟨p,0,none⟩=some (.map (some mb))∧MapAt aW w2 mb (T.map fun q=>(q.1,ptr (ib q.1)))):=fun w2 hb=>by
     have h2:=HH.out.below hb (Nat.le_refl _)
     have hi:=h2.item d x HX.out
     obtain⟨_,_,_,_,_,_,c7,_⟩:=hi.cell
     unfold dU at c7
     rw[if_pos Kc.out]at c7
     exact⟨c7,hi.names Kc.out,h2.cell.1,h2.map⟩
    cases hj:aj nm x.names with
    |some j=>
     have hgn:aj nm (dV x)=some (.int .i64 j):=by rw[jM,hj];rfl
     have MI:=Lib.hid hgn
     have hm:dK T ls kind=((0,21),T):=by
      have:jw T ls kind=21:=by rw[TK.out (if 64≤T.length then 4 else 0) (fun h=>if_pos h) (fun h=>if_neg (by omega)),hj];rfl
      unfold dK;rw[this];simp
     have HM:=Lib.hid hm
     clear hm hj hgn
     rcases hk with rfl|rfl
     all_goals
      go_enter Tryz.func27,Tryz.ntmps27
      go_wp2_with fail
      (with_reducible refine HF.out.mono ?_)
      rintro e w1 ⟨rfl,hb1⟩
      have HB1:=Lib.hid hb1
      clear hb1
      go_wp2_with fail
      (with_reducible refine(FX.out w1 HB1.out).mono ?_)
      rintro e w2 ⟨rfl,hb2⟩
      (first|rw[if_pos rfl]|rw[if_pos trivial])
      have HB2:=Lib.hid (HB1.out.trans (hb2.mono HB1.out.size))
      clear hb2
      obtain⟨c7,kI,_,_⟩:=yO.out w2 HB2.out
      have u_:=Lib.hid kI
      clear kI
      go_wp2_with (at_lookup;refine aU fM rfl _ _ 110 3 rfl Tryz.underlying110 (Tryz.jh _) rfl u_.out nm rfl CG ?_;rw[MI.out])
      go_ret2
      rw[HM.out]
      exact Turn.same HH.out HB2.out rfl
    |none=>
     have hgn:aj nm (dV x)=none:=by rw[jM,hj];rfl
     have MI:=Lib.hid hgn
     have HJ:=Lib.hid hj
     clear hgn hj
     by_cases h64:64≤T.length
     ·have hm:dK T ls kind=((0,4),T):=by
       have:jw T ls kind=4:=by rw[TK.out 4 (fun _=>rfl) (fun h=>by omega),HJ.out];rfl
       unfold dK;rw[this];simp
      have HM:=Lib.hid hm
      have UY:decide ((T.length:Int)<64)=false:=by simp;omega
      have hd65:decide ((64:Int)≤(T.length:Int))=true:=by simp;omega
      clear hm
      rcases hk with rfl|rfl
      all_goals
       go_enter Tryz.func27,Tryz.ntmps27
       go_wp2_with fail
       (with_reducible refine HF.out.mono ?_)
       rintro e w1 ⟨rfl,hb1⟩
       have HB1:=Lib.hid hb1
       clear hb1
       go_wp2_with fail
       (with_reducible refine(FX.out w1 HB1.out).mono ?_)
       rintro e w2 ⟨rfl,hb2⟩
       (first|rw[if_pos rfl]|rw[if_pos trivial])
       have HB2:=Lib.hid (HB1.out.trans (hb2.mono HB1.out.size))
       clear hb2
       obtain⟨c7,kI,c0,hmap⟩:=yO.out w2 HB2.out
       have u_:=Lib.hid kI
       have lQ:=Lib.hid hmap
       clear kI hmap
       go_wp2_with (first|(at_lookup;refine aU fM rfl _ _ 110 3 rfl Tryz.underlying110 (Tryz.jh _) rfl u_.out nm rfl CG ?_;rw[MI.out])|(at_len;refine jW aW rfl _ 104 107 rfl Tryz.underlying104 rfl lQ.out ?_;rw[List.length_map]))
       go_ret2
       rw[HM.out]
       exact Turn.same HH.out HB2.out rfl
     ·have hm:dK T ls kind=((yH T,0),qV T ls kind):=by
       have:jw T ls kind=0:=by rw[TK.out 0 (fun h=>absurd h h64) (fun h=>rfl),HJ.out];rfl
       unfold dK;rw[if_pos this]
      unfold qV at hm
      rw[←HQ.out]at hm
      obtain⟨f,hfE,hf1,hf2,hfn,hfs⟩:=HT.out.free
      rw[hfE]at hm
      have HM:=Lib.hid hm
      have rV:=Lib.hid hfn
      have HFS:=Lib.hid hfs
      have UY:decide ((T.length:Int)<64)=true:=by simp;omega
      have hd65:decide ((64:Int)≤(T.length:Int))=false:=by simp;omega
      have hfd:d≠(f:Int):=fun e=>by have:=HX.out;rw[e,rV.out]at this;cases this
      have HFD:=Lib.hid hfd
      clear hm hfn hfs hfE hfd
      have hokf:aW.ok (f:Int):=qC (by omega) (by omega)
      have HK:=Lib.hid hk
      rcases hk with rfl|rfl
      all_goals
       go_enter Tryz.func27,Tryz.ntmps27
       go_wp2_with fail
       (with_reducible refine HF.out.mono ?_)
       rintro e w1 ⟨rfl,hb1⟩
       have HB1:=Lib.hid hb1
       clear hb1
       go_wp2_with fail
       (with_reducible refine(FX.out w1 HB1.out).mono ?_)
       rintro e w2 ⟨rfl,hb2⟩
       (first|rw[if_pos rfl]|rw[if_pos trivial])
       have HB2:=Lib.hid (HB1.out.trans (hb2.mono HB1.out.size))
       clear hb2
       obtain⟨c7,kI,c0,hmap⟩:=yO.out w2 HB2.out
       have u_:=Lib.hid kI
       have lQ:=Lib.hid hmap
       clear kI hmap
       go_wp2_with (first|(at_lookup;refine aU fM rfl _ _ 110 3 rfl Tryz.underlying110 (Tryz.jh _) rfl u_.out nm rfl CG ?_;rw[MI.out])|(at_len;refine jW aW rfl _ 104 107 rfl Tryz.underlying104 rfl lQ.out ?_;rw[List.length_map]))
       go_loop [14] (fun s=>∃j:Nat,1≤j∧j≤f∧s= .int .i64 j) (fun s=>f-(intOf s).toNat)
       case atStart=>exact⟨1,by omega,by omega,rfl⟩
       case round=>
        obtain⟨j,hj1,hjf,rfl⟩:=hrel
        have qM:aW.ok (j:Int):=qC (by omega) (by omega)
        by_cases hjf':j<f
        ·obtain⟨y,hy⟩:=Option.isSome_iff_exists.1 (HFS.out j hj1 hjf')
         have Nj:Hid (aj (j:Int) (T.map fun q=>(q.1,ptr (ib q.1)))=some (ptr (ib j))):=by rw[dN,hy];rfl
         clear hy
         go_wp2_with (at_lookup;refine bW aW rfl _ _ 104 107 rfl Tryz.underlying104 (Tryz.cK _) rfl lQ.out (j:Int) rfl qM ?_;rw[Nj.out])
         go_round
         case rel=>exact⟨j+1,by omega,by omega,by go_num⟩
         case measure=>simp[intOf];omega
        ·obtain rfl:f=j:=by omega
         have Nj:Hid (aj (f:Int) (T.map fun q=>(q.1,ptr (ib q.1)))=none):=by rw[dN,rV.out];rfl
         go_wp2_with (at_lookup;refine bW aW rfl _ _ 104 107 rfl Tryz.underlying104 (Tryz.cK _) rfl lQ.out (f:Int) rfl qM ?_;rw[Nj.out])
         have HA2:=Lib.hid (HH.out.below HB2.out (Nat.le_refl _))
         have hpw:=HA2.out.cell.2.1
         have hmw:=HA2.out.cell.2.2
         have hpm:p≠mb:=fun e=>by have h1:=HH.out.nS;rw[e,HH.out.iH]at h1;cases h1
         have hst:∀v w3,Below w2.drew.heap.size w2.drew w3→∃w4,(Instr.mapUpdate 104 (.map (some mb)) (.int .i64 (f:Int)) v).run Tryz.prog w3= .ok () w4∧MapAt aW w4 mb (bM aW.lt (f:Int) v (T.map fun q=>(q.1,ptr (ib q.1))))∧w3.mapTurned w4 mb:=by
          intro v w3 hb3
          have hm1:MapAt aW w3 mb (T.map fun q=>(q.1,ptr (ib q.1))):=lQ.out.kept (hb3.block mb hmw)
          exact hm1.oJ aW Tryz.underlying104 (by rw[List.length_map];unfold maxLen;omega) (f:Int) v hokf
         have HST:=Lib.hid hst
         have HPM:=Lib.hid hpm
         have hkeep:∀w3,Below w2.drew.heap.size w2.drew w3→w3.cell? ⟨p,0,none⟩=some (.map (some mb)):=fun w3 hb3=>(hb3.cell (p:=⟨p,0,none⟩) hpw).trans c0
         have Nk:∀w3 w4,Below w2.drew.heap.size w2.drew w3→w3.mapTurned w4 mb→w4.cell? ⟨p,0,none⟩=some (.map (some mb)):=fun w3 w4 hb3 hT=>(World.cell?_of_block (w:=w3) (w':=w4) (a:=⟨p,0,none⟩) (bX hT p (Nat.lt_of_lt_of_le hpw hb3.size) HPM.out)).trans ((hb3.cell (p:=⟨p,0,none⟩) hpw).trans c0)
         have iK:=Lib.hid hkeep
         have HKP2:=Lib.hid Nk
         have HFA:=Lib.hid (fun w=>vE (f:Int) 1 w)
         clear hst hpm hkeep Nk
         go_region_held3 (fun w'=>w'.cell? ⟨p,0,none⟩=some (.map (some mb))) (first|exact c0|exact iK.out _ hb3|exact HKP2.out _ _ hb3 vk) ((first|(go_at_call 69;refine(vE (f:Int) _ _).mono ?_;rintro e w3 ⟨rfl,hi3,hb3,hs3,hs4⟩)|(obtain⟨w4,BH,CJ,vk⟩:=HST.out (ptr w2.heap.size) w3 hb3;rw[BH];go_simp)))
         have HI3:=Lib.hid hi3
         have HB3:=Lib.hid hb3
         have xG:=Lib.hid hs3
         have pI:=Lib.hid hs4
         have qD:=Lib.hid CJ
         have yP:=Lib.hid vk
         clear hi3 hb3 hs3 hs4 CJ vk BH
         obtain⟨g1,TI,TJ,FY,hg1,hK4,hib⟩:=Nh (HA2.out.below (Below.refl _ _).drew (Nat.le_refl _)) rV.out HI3.out HB3.out xG.out (by first|exact pI.out|exact fun _=>pI.out trivial) qD.out yP.out
         have hx4:∀kd,aj d (bM fQ (f:Int) (bL kd) T)=some x:=fun kd=>by rw[dL,if_neg HFD.out];exact HX.out
         obtain⟨_,_,_,_,_,_,c74,_⟩:=(FY.item d x (hx4 _)).cell
         have UZ:=(FY.item d x (hx4 _)).names Kc.out
         unfold dU at c74
         rw[if_pos Kc.out,(hib d HFD.out).1]at c74
         obtain⟨nd,hnd⟩:∃nd,nd=TJ d:=⟨_,rfl⟩
         rw[←hnd]at c74 UZ
         have HA4:=Lib.hid FY
         have CK:=Lib.hid hg1
         have FZ:=Lib.hid hK4
         have HX4:=Lib.hid hx4
         have HNM4:=Lib.hid UZ
         have Nl:=Lib.hid hnd
         have U0:Hid ((dV x).length<maxLen):=by
          have h1:=HT.out.few HX.out
          have h2:(dV x).length<maxLen:=by unfold dV maxLen;rw[List.length_map];omega
          exact h2
         clear FY hg1 hK4 hx4 UZ hnd hib
         go_wp2_with (at_mapUpdate;refine kH fM rfl _ _ _ 110 3 rfl Tryz.underlying110 rfl HNM4.out U0.out nm (.int .i64 (f:Int)) rfl rfl CG ?_;intro w5 hM5 Qz)
         go_ret2
         rw[HM.out]
         have FY:=HA4.out
         have hnd:=Nl.out
         have hgn:g1 nd≠ .none:=by rw[hnd,FY.kZ d x (HX4.out _) Kc.out];simp
         obtain⟨e1,e2⟩:=Ni HB2.out CK.out FZ.out Qz hgn
         subst hnd
         exact⟨rfl,g1,D,TI,TJ,FY.set (HX4.out _) Kc.out hM5 Qz,e1,fun b h=> .inl h,e2⟩
   ·have hne:((aV T ls).2.2==0)=false:=by simpa using hp
    have hne2:((aV T ls).2.2 !=0)=true:=by simpa using hp
    have hm:dK T ls kind=((0,(aV T ls).2.2),T):=by
     have:jw T ls kind=(aV T ls).2.2:=by unfold jw;rw[if_neg (by rw[A_.out];simp),if_neg (fun h=>h hk),if_pos hp]
     unfold dK;rw[this,if_neg hp]
    have HM:=Lib.hid hm
    have HP:=Lib.hid hp
    unfold uw at FX
    generalize aV T ls=q at*
    clear hm hp
    rcases hk with rfl|rfl
    all_goals
     go_enter Tryz.func27,Tryz.ntmps27
     go_wp2_with fail
     (with_reducible refine HF.out.mono ?_)
     rintro e w1 ⟨rfl,hb1⟩
     have HB1:=Lib.hid hb1
     clear hb1
     go_wp2_with fail
     (with_reducible refine(FX.out w1 HB1.out).mono ?_)
     rintro e w2 ⟨rfl,hb2⟩
     rw[if_neg HP.out]
     have HB2:=Lib.hid hb2
     clear hb2
     go_wp2_with fail
     go_ret2
     rw[HM.out]
     exact Turn.same HH.out (HB1.out.trans (HB2.out.mono HB1.out.size)) rfl
  ·have HK:=Lib.hid hk
   have e1:(kind !=1)=true:=by simp;omega
   have e2:(kind !=2)=true:=by simp;omega
   have hm:dK T ls kind=((0,30),T):=by
    have:jw T ls kind=30:=by unfold jw;rw[if_neg (by rw[A_.out];simp),if_pos HK.out]
    unfold dK;rw[this];simp
   have HM:=Lib.hid hm
   clear hm hk
   go_enter Tryz.func27,Tryz.ntmps27
   go_wp2_with fail
   (with_reducible refine HF.out.mono ?_)
   rintro e w1 ⟨rfl,hb1⟩
   go_wp2_with fail
   go_ret2
   rw[HM.out]
   exact Turn.same HH.out hb1 rfl
 ·have hm:dK T ls kind=((0,dA ls),T):=by
   have:jw T ls kind=dA ls:=by unfold jw;rw[if_pos hf]
   unfold dK;rw[this,if_neg hf]
  have hne:(dA ls==0)=false:=by simpa using hf
  have hne2:(dA ls !=0)=true:=by simpa using hf
  have HM:=Lib.hid hm
  clear hm hf
  go_enter Tryz.func27,Tryz.ntmps27
  go_wp2_with fail
  (with_reducible refine HF.out.mono ?_)
  rintro e w1 ⟨rfl,hb1⟩
  go_wp2_with fail
  go_ret2
  rw[HM.out]
  exact Turn.same HH.out hb1 rfl
section
variable {g:Nat→Own} {D:Nat→Prop} {p mb:Nat} {ib nb:Int→Nat} {T:aA}
theorem iq.frozen {w:World} {k:Int} {i n:Nat} {x:bq} (h:iq D w k i n x) (j:Nat):w.frozen? ⟨i,j,none⟩=false:=by
 obtain⟨⟨a,c,h1,_⟩,_⟩:=h
 simp[World.frozen?,h1]
theorem iq.row {w:World} {k:Int} {i n:Nat} {x:bq} (h:iq D w k i n x):∃a c,w.cell? ⟨i,6,none⟩=some (.slice a x.b.length c)∧kV x.b.length c∧ah D w a x.b.length (x.b.map bv)∧w.heap[i]? =some (.cells (gP k x a c n) 112 (0,0)):=by
 obtain⟨⟨a,c,h1,h2,h3⟩,_⟩:=h
 exact⟨a,c,by simp only[World.cell?,h1];rfl,h2,h3,h1⟩
theorem aH.fields {w w':World} (h:aH g D w p mb ib nb T) {k:Int} {x:bq} (hx:aj k T=some x) (f:bq→bq) (hb:(f x).b=x.b) (hn:(f x).names=x.names) (hk:(f x).kind=x.kind) (hK:Keeps (fun b=>b=ib k) w w') (hs:w'.heap.size=w.heap.size)
  (hc:∀a c,w.heap[ib k]? =some (.cells (gP k x a c (nb k)) 112 (0,0))→w'.heap[ib k]? =some (.cells (gP k (f x) a c (nb k)) 112 (0,0))):aH g D w' p mb ib nb (Go.Proofs.YtjnhnlabpccgjaaGreat.aX k f T):=by
 have ti:=h.nk k x hx
 refine h.aX hx hk (fun _ h=>h) (fun b hb=>⟨h.data b hb,by rw[hs];exact h.mh b hb⟩) (by omega) (fun b hbw h1 _=>hK.block b hbw (fun e=>h1 (by rw[e];exact ti))) ?_
 obtain⟨⟨a,c,h1,h2,h3⟩,h4⟩:=h.item k x hx
 refine⟨⟨a,c,hc a c h1,by rw[hb];exact h2,by rw[hb];exact h3.kept (by omega) fun b hD hbw=>hK.block b hbw (fun e=>by have:=h.data b hD;rw[e,ti]at this;cases this)⟩,fun hk2=> ?_⟩
 have X3:x.kind=2:=hk▸hk2
 have e:dV (f x)=dV x:=by unfold dV;rw[hn]
 rw[e]
 have tn:=h.kZ k x hx X3
 exact(h4 X3).kept (hK.block _ (h.low _ (by rw[tn];simp)) (fun e=>by rw[e,ti]at tn;cases tn))
theorem Keeps.set2 (w:World) (i j j':Nat) (v v':Value):Keeps (fun b=>b=i) w ((w.setCell ⟨i,j,none⟩ v).setCell ⟨i,j',none⟩ v'):=
 (Keeps.fq w ⟨i,j,none⟩ v).trans (Keeps.fq _ ⟨i,j',none⟩ v') (fun _ _ h=>h)
set_option maxHeartbeats 1000000 in
theorem yQ (id:Int) (k:Int) (hk:dG T id=k) (hk0:k≠0) (w:World) (h:aH g D w p mb ib nb T) (hid:(Lit.int .i64 id).wf=true):
  Calls Tryz.prog 77 #[ptr p, .int .i64 id] w fun e w'=>e= .returned (.tuple #[.pointer none, .int .i64 k])∧w=w':=by
 obtain⟨hc0,hpw,hmw⟩:=h.cell
 have hmap:=Lib.hid h.map
 have hok:aW.ok id:=hid
 unfold dG at hk
 cases hx:aj id T with
 |none=>
  rw[hx]at hk
  simp only at hk
  subst hk
  have HG:Hid (aj id (T.map fun q=>(q.1,ptr (ib q.1)))=none):=by rw[dN,hx];rfl
  clear h hx hid hk0
  go_enter Tryz.func77,Tryz.ntmps77
  go_wp2_with (at_lookup;refine aU aW rfl _ _ 104 107 rfl Tryz.underlying104 (Tryz.cK _) rfl hmap.out id rfl hok ?_;rw[HG.out])
  go_ret2
  exact⟨rfl,rfl⟩
 |some x=>
  rw[hx]at hk
  simp only at hk
  by_cases hk2:x.kind=2
  ·rw[if_pos hk2]at hk
   subst hk
   have HG:Hid (aj id (T.map fun q=>(q.1,ptr (ib q.1)))=some (ptr (ib id))):=by rw[dN,hx];rfl
   obtain⟨c0,c1,c2,c3,c4,c5,c7,hiw⟩:=(h.item id x hx).cell
   rw[hk2]at c1
   clear h hx hid hk0 c7 hk2
   go_enter Tryz.func77,Tryz.ntmps77
   go_wp2_with (at_lookup;refine aU aW rfl _ _ 104 107 rfl Tryz.underlying104 (Tryz.cK _) rfl hmap.out id rfl hok ?_;rw[HG.out])
   go_ret2
   exact⟨rfl,rfl⟩
  ·rw[if_neg hk2]at hk
   exact absurd hk.symm hk0
set_option maxHeartbeats 1000000 in
theorem xU (id:Int) {x:bq} (hx:aj id T=some x) (hk2:x.kind≠2) (w:World) (h:aH g D w p mb ib nb T) (hid:(Lit.int .i64 id).wf=true):
  Calls Tryz.prog 77 #[ptr p, .int .i64 id] w fun e w'=>e= .returned (.tuple #[ptr (ib id), .int .i64 0])∧w=w':=by
 obtain⟨hc0,hpw,hmw⟩:=h.cell
 have hmap:=Lib.hid h.map
 have hok:aW.ok id:=hid
 have HG:Hid (aj id (T.map fun q=>(q.1,ptr (ib q.1)))=some (ptr (ib id))):=by rw[dN,hx];rfl
 obtain⟨c0,c1,c2,c3,c4,c5,c7,hiw⟩:=(h.item id x hx).cell
 have e1:(x.kind==2)=false:=by simpa using hk2
 clear h hx hid c7 hk2
 go_enter Tryz.func77,Tryz.ntmps77
 go_wp2_with (at_lookup;refine aU aW rfl _ _ 104 107 rfl Tryz.underlying104 (Tryz.cK _) rfl hmap.out id rfl hok ?_;rw[HG.out])
 go_ret2
 exact⟨rfl,rfl⟩
def mI (k:Int) (x:bq):Value:= .agg #[.int .i64 k, .int .i64 x.kind, .int .i64 x.links, .int .i64 x.b.length, .int .u64 x.aP, .bool x.closed]
def qE (T:aA) (id:Int):Value:=match aj id T with
 |some x=>mI id x
 |none=> .agg #[.int .i64 0, .int .i64 0, .int .i64 0, .int .i64 0, .int .u64 0, .bool false]
set_option maxHeartbeats 1000000 in
theorem Np (id:Int) (w:World) (h:aH g D w p mb ib nb T) (hid:(Lit.int .i64 id).wf=true):
  Calls Tryz.prog 65 #[ptr p, .int .i64 id] w fun e w'=>e= .returned (.tuple #[qE T id, .bool (aj id T).isSome])∧Below w.heap.size w w':=by
 obtain⟨hc0,hpw,hmw⟩:=h.cell
 have hok:aW.ok id:=hid
 have Nq:∀o,MapAt aW (w.alloc o) mb (T.map fun q=>(q.1,ptr (ib q.1))):=fun o=>h.map.kept ((wall w o).block mb hmw)
 have hmap:=Lib.hid Nq
 unfold qE
 cases hx:aj id T with
 |none=>
  have HG:Hid (aj id (T.map fun q=>(q.1,ptr (ib q.1)))=none):=by rw[dN,hx];rfl
  clear h hx hid Nq
  go_enter Tryz.func65,Tryz.ntmps65
  go_wp2_with (at_lookup;refine aU aW rfl _ _ 104 107 rfl Tryz.underlying104 (Tryz.cK _) rfl (hmap.out _) id rfl hok ?_;rw[HG.out])
  exact bodyPost_ret (v:= .tuple #[.agg #[.int .i64 0, .int .i64 0, .int .i64 0, .int .i64 0, .int .u64 0, .bool false], .bool false]) (by simp[results,Tryz.results65,go_sem]) rfl ⟨rfl,wall w _⟩
 |some x=>
  have HG:Hid (aj id (T.map fun q=>(q.1,ptr (ib q.1)))=some (ptr (ib id))):=by rw[dN,hx];rfl
  obtain⟨c0,c1,c2,c3,c4,c5,c7,hiw⟩:=(h.item id x hx).cell
  clear h hx hid c7 Nq
  unfold mI
  go_enter Tryz.func65,Tryz.ntmps65
  go_wp2_with (at_lookup;refine aU aW rfl _ _ 104 107 rfl Tryz.underlying104 (Tryz.cK _) rfl (hmap.out _) id rfl hok ?_;rw[HG.out])
  exact bodyPost_ret (v:= .tuple #[.agg #[.int .i64 id, .int .i64 x.kind, .int .i64 x.links, .int .i64 x.b.length, .int .u64 x.aP, .bool x.closed], .bool true]) (by simp[results,Tryz.results65,go_sem]) rfl ⟨rfl,wall w _⟩
end
end Go.Proofs.YtjnhnlabpccgjaaGreat
