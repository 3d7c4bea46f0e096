/- path.Parent; slices.Clone of texts. tree: fresh, fine. tree: look, place. tree: place. -/
import Derived.Test.YtohpcppeajijnaaGreatM06
import Derived.Test.YtohpcppeajijnaaGreatM07
import Derived.BigQuiet
import Derived.Deep.QuietTactic
import Derived.Deep.RegionHeld3
import Derived.OwnWalk
import Derived.IntWalk
namespace Go.Proofs.YtohpcppeajijnaaGreat
open Go.ChangeShapes Go.WideShapes Go.ChangeAt Go.RowKit
set_option linter.unusedVariables false
abbrev D6 (B:Nat):Nat→Prop:=fun b=>B≤b
theorem Ik {w:World} {base:Nat} {e:TypeId} {v:Value} {n:Nat} {ss:List ByteArray} (h:w.ownsRow base e 1 v n (ss.map .string)) (hs:∀s∈ss,s.size≤maxLen):
  ∃a cap,v= .slice a n cap∧aW (D6 base) w a n ss:=by
 have h0:=h
 obtain⟨hl,h⟩:=h
 rcases h with⟨rfl,rfl⟩|⟨g,cap,cur,rfl,hb,hh,hn,hm,hsz,ht⟩
 ·obtain rfl:ss=[]:=by simpa using hl
  exact⟨none,0,rfl,ak.nil _ _ _,by simp⟩
 ·refine⟨_,cap,rfl,⟨by simpa using hl,by omega,fun _=>⟨g,0,rfl,hb,(Array.getElem?_eq_some_iff.1 hh).1,fun i hi=> ?_⟩⟩,hs⟩
  rw[Nat.zero_add,h0.cellAt i (by omega)]
theorem ES {S:Nat→Prop} {w:World} {b off len:Nat} {ss:List ByteArray} (h:aW S w (some ⟨b,off,none⟩) len ss) (j:Nat) (hj:j<ss.length):
  w.cell? ⟨b,off+j,none⟩=some (.string (ss.getD j ByteArray.empty)):=by
 obtain⟨b',off',s,e,_,_,hs,_,hc⟩:=h.cell j (by have:=h.length;omega)
 simp only[Option.some.injEq,Addr.mk.injEq,and_true]at e
 obtain⟨rfl,rfl⟩:=e
 rw[hc]
 simp[List.getD,hs]
def Me (w:World) (n:Nat) (ss:List ByteArray) (e:Ending) (w':World):Prop:=
 ∃g cap,e= .returned (.slice (some ⟨g,0,none⟩) n cap)∧n≤cap∧aW (D6 w.heap.size) w' (some ⟨g,0,none⟩) n ss∧Below w.heap.size w w'
theorem qQ {w:World} {base:Nat} {e:TypeId} {v:Value} {n:Nat} {ss:List ByteArray} (h:w.ownsRow base e 1 v n (ss.map .string)) (hs:∀s∈ss,s.size≤maxLen) (hv:v≠ .slice none 0 0):
  ∃g cap,v= .slice (some ⟨g,0,none⟩) n cap∧n≤cap∧aW (D6 base) w (some ⟨g,0,none⟩) n ss:=by
 obtain⟨a,cap,rfl,hS⟩:=Ik h hs
 obtain⟨_,h⟩:=h
 rcases h with⟨h,_⟩|⟨g,cap',cur,h,_,_,h2,_⟩
 ·exact absurd h hv
 ·simp only[Value.slice.injEq,true_and]at h
  obtain⟨rfl,rfl⟩:=h
  exact⟨g,_,rfl,h2,hS⟩
theorem Ca {S:Nat→Prop} (ad:Addr) (len cap:Nat) (ss:List ByteArray) (w:World) (h:aW S w (some ad) len ss) (hsz:len*16≤140737488355328):
  Calls Tryz.prog 168 #[.slice (some ad) len cap] w (Me w len ss):=by
 have hl:=h.length
 by_cases h0:len=0
 ·subst h0
  obtain rfl:ss=[]:=by simpa using hl
  refine(Tryz.slices_Clone_string_zero ad cap w).mono ?_
  rintro e w' ⟨v,rfl,ho,hv,hb⟩
  obtain⟨g,cap',rfl,hc,hS⟩:=qQ (ss:=[]) (by simpa using ho) (by simp) hv
  exact⟨g,cap',rfl,hc,hS,hb⟩
 ·obtain⟨b,off,e,_,_,_⟩:=h.row.at_ (by omega)
  simp only[Option.some.injEq]at e
  subst e
  refine(Tryz.slices_Clone_string b off len cap ss w (by omega) hsz (fun j hj=>ES h j hj)).mono ?_
  rintro e w' ⟨v,rfl,ho,hv,hb⟩
  rw[List.take_of_length_le (by omega)]at ho
  obtain⟨g,cap',rfl,hc,hS⟩:=qQ ho h.short hv
  exact⟨g,cap',rfl,hc,hS,hb⟩
theorem aW.take {S:Nat→Prop} {w:World} {a:Option Addr} {len:Nat} {ss:List ByteArray} (h:aW S w a len ss) (k:Nat) (hk:k≤len):aW S w a k (ss.take k):=by
 have hl:=h.length
 refine⟨⟨by simp;omega,Nat.le_trans hk h.row.small,fun h0=> ?_⟩,fun s hs=>h.short s (List.mem_of_mem_take hs)⟩
 obtain⟨b,off,e,hS,hb,hc⟩:=h.row.at_ (by omega)
 refine⟨b,off,e,hS,hb,fun i hi=> ?_⟩
 rw[hc i (by omega),List.map_take,List.getElem?_take,if_pos hi]
def ET (w:World) (ss:List ByteArray) (e:Ending) (w':World):Prop:=
 (ss=[]∧e= .returned (.tuple #[.slice none 0 0, .string ⟨#[]⟩, .int .i64 1])∧w=w')∨
 ∃g cap x,ss.getLast? =some x∧e= .returned (.tuple #[.slice (some ⟨g,0,none⟩) (ss.length-1) cap, .string x, .int .i64 0])∧ss.length-1≤cap∧aW (D6 w.heap.size) w' (some ⟨g,0,none⟩) (ss.length-1) ss.dropLast∧Below w.heap.size w w'
theorem Cb {S:Nat→Prop} (a:Option Addr) (len cap:Nat) (ss:List ByteArray) (w:World) (h:aW S w a len ss) (hsz:len*16≤140737488355328) (hcap:len≤cap):
  Calls Tryz.prog 128 #[.slice a len cap] w (ET w ss):=by
 have hl:=h.length
 by_cases h0:len=0
 ·subst h0
  obtain rfl:ss=[]:=by simpa using hl
  go_enter Tryz.func128,Tryz.ntmps128
  go_wp2
  go_ret3
  exact Or.inl ⟨rfl,rfl,rfl⟩
 ·have hb0:((len:Int)==0)=false:=by simp[h0]
  obtain⟨n,rfl⟩:∃n,len=n+1:=⟨len-1,by omega⟩
  obtain⟨b,off,x,rfl,_,hbw,hx,hxs,hcell⟩:=h.cell n (by omega)
  have hT:∀w':World,w'.heap=w.heap→aW S w' (some ⟨b,off,none⟩) n (ss.take n):=fun w' e=>(h.take n (by omega)).kept (by rw[e];exact Nat.le_refl _) (fun _ _ _=>by rw[e])
  have hm:=h.row.small
  unfold maxLen at hm
  have e1:IntKind.i64.wrap (n:Int)=(n:Int):=IntWalk.i64_in _ (by omega)
  have e2:(0:Int)≤(n:Int):=by omega
  have e3:(n:Int)≤(cap:Int):=by omega
  have e5:n≤cap:=by omega
  have e4:(n:Int)<(n:Int)+1:=by omega
  have E1:=Lib.hid hx
  have E2:=Lib.hid hl
  clear hx hl h hm hb0
  have hb0:((n:Int)+1==0)=false:=by simp;omega
  go_enter Tryz.func128,Tryz.ntmps128
  go_wp2
  go_region_held3 (fun w'=>w'.cell? ⟨b,off+n,none⟩=some (.string x)) (first|exact hcell|(rw[hb1.cell (p:=⟨b,off+n,none⟩) hbw];exact hcell)) ((first|(go_at_call 168;refine(Ca (S:=S) _ _ _ (ss.take n) _ (hT w.drew rfl) (by omega)).mono ?_;rintro e w1 ⟨a1,V3,rfl,hca,hS1,hb1⟩)))
  go_wp2
  go_ret3
  have hl:=E2.out
  have hlast:ss.getLast? =some x:=by
   rw[List.getLast?_eq_getElem?,hl];exact E1.out
  have hdl:ss.dropLast=ss.take n:=by rw[List.dropLast_eq_take,hl];rfl
  have hn1:ss.length-1=n:=by omega
  refine Or.inr ⟨a1,V3,x,hlast,?_,?_,?_,⟨hb1.os,hb1.tape,hb1.output,hb1.size,hb1.block⟩⟩
  ·rw[hn1];rfl
  ·rw[hn1];exact hca
  ·rw[hn1,hdl];exact hS1
set_option linter.unusedSimpArgs false
theorem EU (ls:List Nm):xJ (ls.map strOf)=bV ls:=by
 have:∀l:Nm,wZ (strOf l)= !dB l:=fun l=>by simp[wZ,strOf]
 unfold xJ bV
 rw[List.any_map,List.length_map]
 have e:wZ∘strOf=fun x=> !dB x:=by funext l;exact this l
 rw[e]
theorem f_ {w:World} {i:Nat} {cs:Array Value} {t:TypeId} (h:w.heap[i]? =some (.cells cs t)) (j:Nat):w.cell? ⟨i,j,none⟩=cs[j]? :=by simp[World.cell?,h]
def Il (k kind:Int) (w:World) (e:Ending) (w':World):Prop:=
 e= .returned (ptr w.heap.size)∧gU (fun _=>False) w' k w.heap.size (w.heap.size+1) (aX kind)∧Below w.heap.size w w'∧w.heap.size<w'.heap.size∧(kind=2→w.heap.size+1<w'.heap.size)
set_option maxHeartbeats 1000000 in
theorem su (k kind:Int) (w:World):Calls Tryz.prog 58 #[.int .i64 k, .int .i64 kind] w (Il k kind w):=by
 have hmm:= @run_makeMap Tryz.prog
 by_cases hk:kind=2
 ·subst hk
  go_enter Tryz.func58,Tryz.ntmps58
  go_wp2
  go_ret
  refine⟨rfl,⟨⟨none,0,?_,⟨Nat.le_refl _,Nat.zero_le _⟩,ak.nil _ _ _⟩,fun _=> ?_⟩,?_,?_,fun _=> ?_⟩
  ·rw[Below.heap_alloc _ _ _ (by simp)]
   exact(MapKept.heap_alloc w _).1
  ·have:=MapAt.made (F:=gF) (w.alloc (.cells (gK k (aX 2) none 0 (w.heap.size+1)) 109))
   rw[World.size_alloc]at this
   exact this
  ·exact((Below.refl _ _).alloc (Nat.le_refl _) _).alloc (by simp) _
  ·simp;omega
  ·simp
 ·have hk':(kind==2)=false:=by simpa using hk
  go_enter Tryz.func58,Tryz.ntmps58
  go_wp2
  go_ret
  refine⟨rfl,⟨⟨none,0,?_,⟨Nat.le_refl _,Nat.zero_le _⟩,ak.nil _ _ _⟩,fun h=>absurd h hk⟩,(Below.refl _ _).alloc (Nat.le_refl _) _,by simp,fun h=>absurd h hk⟩
  have e1:gK k (aX kind) none 0 (w.heap.size+1)= #[.int .i64 k, .int .i64 kind, .int .i64 1, .int .i64 0, .int .u64 0, .bool false, .slice none 0 0, .map none]:=by
   simp[gK,aX,dO,hk]
  rw[e1]
  exact(MapKept.heap_alloc w _).1
def gH:List (List Nm)→Int
 |[]=>0
 |p::r=>if bV p≠0 then bV p else gH r
theorem vk:∀(eZ:List (List Nm)) (k:Nat) (ls:List Nm),gH (eZ.take k)=0→eZ[k]? =some ls→bV ls≠0→gH eZ=bV ls
 |p::r,0,ls,_,h,hn=>by
  simp only[List.getElem?_cons_zero,Option.some.injEq]at h
  subst h
  rw[gH,if_pos hn]
 |p::r,k+1,ls,h,h2,hn=>by
  simp only[List.take_succ_cons,gH]at h
  by_cases hp:bV p≠0
  ·rw[if_pos hp]at h;exact absurd h hp
  ·rw[if_neg hp]at h
   rw[gH,if_neg hp]
   exact vk r k ls h (by simpa using h2) hn
theorem qR:∀(eZ:List (List Nm)) (k:Nat) (ls:List Nm),gH (eZ.take k)=0→eZ[k]? =some ls→bV ls=0→gH (eZ.take (k+1))=0
 |p::r,0,ls,_,h,hn=>by
  simp only[List.getElem?_cons_zero,Option.some.injEq]at h
  subst h
  simp[gH,hn]
 |p::r,k+1,ls,h,h2,hn=>by
  simp only[List.take_succ_cons,gH]at h⊢
  by_cases hp:bV p≠0
  ·rw[if_pos hp]at h;exact absurd h hp
  ·rw[if_neg hp]at h
   rw[if_neg hp]
   exact qR r k ls h (by simpa using h2) hn
set_option maxHeartbeats 1000000 in
theorem EW {S:Nat→Prop} (B n:Nat) (eZ:List (List Nm)) (w:World) (hn:n=eZ.length) (hn2:n≤2) (hB:B<w.heap.size)
  (hc:∀k,k<n→∃a l c ls,w.cell? ⟨B,k,none⟩=some (.slice a l c)∧aW S w a l (ls.map strOf)∧eZ[k]? =some ls):
  Calls Tryz.prog 59 #[.slice (some ⟨B,0,none⟩) n n] w fun e w'=>e= .returned (.int .i64 (gH eZ))∧Below w.heap.size w w':=by
 have HN:=Lib.hid hn
 have HC:=Lib.hid hc
 clear hn hc
 go_enter Tryz.func59,Tryz.ntmps59
 go_wp2
 go_loopw [8] (fun i wr=>∃k:Nat,k≤n∧i= .int .i64 k∧gH (eZ.take k)=0∧Below w.heap.size w wr) (fun i _=>n-(intOf i).toNat)
 case atStart=>exact⟨0,by omega,rfl,rfl,Below.refl _ _⟩
 case round=>
  obtain⟨k,hk,rfl,ha,hb⟩:=hrel
  have HA:=Lib.hid ha
  clear ha
  by_cases hlt:k<n
  ·obtain⟨a,l,c,ls,hcell,hS,hp⟩:=HC.out k hlt
   have hcell':=(hb.cell (p:=⟨B,k,none⟩) hB).trans hcell
   have hF:=Ih a l c (ls.map strOf) wr (hS.below hb (Nat.le_refl _))
   rw[EU]at hF
   have HF:=Lib.hid hF
   have HP:=Lib.hid hp
   clear hp hF hS hcell
   by_cases h0:bV ls=0
   ·have H0:=Lib.hid h0
    clear h0
    go_wp2_with fail
    (with_reducible refine HF.out.mono ?_)
    rintro e w1 ⟨rfl,hb1⟩
    rw[H0.out]
    go_wp2_with fail
    go_roundw
    case rel=>exact⟨k+1,by omega,by go_num,qR _ _ _ HA.out HP.out H0.out,hb.trans (hb1.mono hb.size)⟩
    case measure=>simp[intOf];omega
   ·have H0:=Lib.hid h0
    have hne:(bV ls==0)=false:=by simpa using h0
    have hne2:(bV ls !=0)=true:=by simpa using h0
    clear h0
    go_wp2_with fail
    (with_reducible refine HF.out.mono ?_)
    rintro e w1 ⟨rfl,hb1⟩
    go_wp2_with fail
    go_ret
    exact⟨fP (vk _ _ _ HA.out HP.out H0.out).symm,hb.trans (hb1.mono hb.size)⟩
  ·go_wp2
   go_ret
   exact⟨fP (by have:=HA.out;rw[List.take_of_length_le (by have:=HN.out;omega)]at this;exact this.symm),hb⟩
theorem Tryz.fI (w:World):(zeroValue 92).run Tryz.prog w= .ok (.pointer none) w:=by kernel_rfl
theorem Tryz.pz (w:World):(zeroValue 3).run Tryz.prog w= .ok (.int .i64 0) w:=by kernel_rfl
theorem tO {k:Int} (h1:0≤k) (h2:k≤1000000):b_.ok k:=by
 simp[b_,Lit.wf,IntKind.min,IntKind.max,IntKind.signed,IntKind.bits];omega
theorem mY {a b:Int} {c d:Int} (h:(a,c)=(b,d)):Ending.returned (.tuple #[.int .i64 a, .int .i64 c])= .returned (.tuple #[.int .i64 b, .int .i64 d]):=by
 cases h;rfl
theorem vo {T:aI} {id:Int} {x:bf} {ls:List Nm} {k:Nat} {n:Nm} {j:Int} (hx:aF id T=some x) (hk2:x.kind=2) (hn:ls[k]? =some n) (hj:aF n x.names=some j):aY T id (ls.drop k)=aY T j (ls.drop (k+1)):=by
 obtain⟨hk,e⟩:=List.getElem?_eq_some_iff.1 hn
 rw[List.drop_eq_getElem_cons hk,e,aY,hx]
 simp only[hk2,if_pos,hj]
theorem vv {T:aI} {id:Int} {x:bf} {ls:List Nm} {k:Nat} {n:Nm} (hx:aF id T=some x) (hk2:x.kind≠2) (hn:ls[k]? =some n):aY T id (ls.drop k)=(0,23):=by
 obtain⟨hk,e⟩:=List.getElem?_eq_some_iff.1 hn
 rw[List.drop_eq_getElem_cons hk,e,aY,hx]
 simp only[if_neg hk2]
theorem vw {T:aI} {id:Int} {x:bf} {ls:List Nm} {k:Nat} {n:Nm} (hx:aF id T=some x) (hk2:x.kind=2) (hn:ls[k]? =some n) (hj:aF n x.names=none):aY T id (ls.drop k)=(0,20):=by
 obtain⟨hk,e⟩:=List.getElem?_eq_some_iff.1 hn
 rw[List.drop_eq_getElem_cons hk,e,aY,hx]
 simp only[hk2,if_pos,hj]
set_option maxHeartbeats 4000000 in
theorem Ag {S:Nat→Prop} {g:Nat→Own} {D:Nat→Prop} {p mb:Nat} {ib nb:Int→Nat} {T:aI} (a:Option Addr) (n c:Nat) (ls:List Nm) (w:World) (h:aK g D w p mb ib nb T) (hT:dR T) (hS:aW S w a n (ls.map strOf)):
  Calls Tryz.prog 66 #[ptr p, .slice a n c] w fun e w'=>e= .returned (.tuple #[.int .i64 (aY T 0 ls).1, .int .i64 (aY T 0 ls).2])∧w=w':=by
 have hln:ls.length=n:=by have:=hS.length;simpa using this
 have hnm:=hS.row.small
 unfold maxLen at hnm
 obtain⟨hc0,hpw,hmw⟩:=h.cell
 have HH:=Lib.hid h
 have HT:=Lib.hid hT
 have HS:=Lib.hid hS
 have HL:=Lib.hid hln
 clear h hT hS hln
 go_enter Tryz.func66,Tryz.ntmps66
 go_wp2
 go_loop [6,14] (fun s i=>∃(k:Nat) (id:Int),k≤n∧i= .int .i64 k∧s= .int .i64 id∧(aF id T).isSome=true∧aY T id (ls.drop k)=aY T 0 ls) (fun _ i=>n-(intOf i).toNat)
 case atStart=>exact⟨0,0,by omega,rfl,rfl,gG HT.out,by simp⟩
 case round=>
  obtain⟨k,id,hk,rfl,rfl,hid,hlk⟩:=hrel
  obtain⟨x,hx⟩:=Option.isSome_iff_exists.1 hid
  have sw:=Lib.hid hlk
  have HX:=Lib.hid hx
  clear hlk hid hx
  have sD:=HT.out.ids id x HX.out
  have hok:b_.ok id:=tO sD.1 (by omega)
  obtain⟨c0,c1,c2,c3,c4,c5,c7,hiw⟩:=(HH.out.item id x HX.out).cell
  have hget:aF id (T.map fun q=>(q.1,ptr (ib q.1)))=some (ptr (ib id)):=by rw[fH,HX.out];rfl
  have HG:=Lib.hid hget
  clear hget
  have hmap:=Lib.hid HH.out.map
  by_cases hlt:k<n
  ·obtain⟨b,off,s,rfl,_,hbw,hs,hsz,hcell⟩:=HS.out.cell k hlt
   obtain⟨nm,hnm',rfl⟩:∃nm,ls[k]? =some nm∧strOf nm=s:=by
    rw[List.getElem?_map]at hs
    cases hq:ls[k]? with
    |none=>rw[hq]at hs;cases hs
    |some nm=>rw[hq]at hs;exact⟨nm,rfl,by simpa using hs⟩
   have HN:=Lib.hid hnm'
   have yT:gF.ok nm:=by show nm.length≤maxLen;rw[←gT];exact hsz
   clear hs hnm'
   by_cases hk2:x.kind=2
   ·have e2:dO x (nb id)= .map (some (nb id)):=if_pos hk2
    rw[e2]at c7
    rw[hk2]at c1
    have jk:=Lib.hid ((HH.out.item id x HX.out).names hk2)
    cases hj:aF nm x.names with
    |none=>
     have hgn:aF nm (dP x)=none:=by rw[lu,hj];rfl
     have Hl:=Lib.hid hgn
     have hfin:=Lib.hid (vw HX.out hk2 HN.out hj)
     clear hgn hj e2 hk2
     go_wp2_with (first|(at_lookup;refine eF b_ rfl _ _ 94 92 rfl Tryz.underlying94 (Tryz.fI _) rfl hmap.out id rfl hok ?_;rw[HG.out])|(at_lookup;refine dH gF rfl _ _ 107 3 rfl Tryz.underlying107 (Tryz.pz _) rfl jk.out nm rfl yT ?_;rw[Hl.out]))
     go_ret2
     exact⟨mY (by rw[←sw.out,hfin.out]),rfl⟩
    |some j=>
     have hgn:aF nm (dP x)=some (.int .i64 j):=by rw[lu,hj];rfl
     have Hl:=Lib.hid hgn
     have hfin:=Lib.hid (vo HX.out hk2 HN.out hj)
     have HJ:=Lib.hid ((HT.out.leads id x HX.out _ (eD hj)).1)
     clear hgn hj e2 hk2
     go_wp2_with (first|(at_lookup;refine eF b_ rfl _ _ 94 92 rfl Tryz.underlying94 (Tryz.fI _) rfl hmap.out id rfl hok ?_;rw[HG.out])|(at_lookup;refine dH gF rfl _ _ 107 3 rfl Tryz.underlying107 (Tryz.pz _) rfl jk.out nm rfl yT ?_;rw[Hl.out]))
     go_round
     case rel=>exact⟨k+1,j,by omega,by go_num,rfl,HJ.out,by rw[←hfin.out];exact sw.out⟩
     case measure=>simp[intOf];omega
   ·have e1:(x.kind==2)=false:=by simpa using hk2
    have hfin:=Lib.hid (vv HX.out hk2 HN.out)
    clear hk2 c7
    go_wp2_with (first|(at_lookup;refine eF b_ rfl _ _ 94 92 rfl Tryz.underlying94 (Tryz.fI _) rfl hmap.out id rfl hok ?_;rw[HG.out]))
    go_ret2
    exact⟨mY (by rw[←sw.out,hfin.out]),rfl⟩
  ·clear c7
   go_wp2
   go_ret2
   exact⟨mY (by rw[←sw.out,List.drop_of_length_le (by have:=HL.out;omega)];rfl),rfl⟩
def qU (T:aI) (ib:Int→Nat) (ls:List Nm) (w:World) (e:Ending) (w':World):Prop:=
 e= .returned (.tuple #[if (aV T ls).2.2=0 then ptr (ib (aV T ls).1)else .pointer none, .string (strOf (aV T ls).2.1), .int .i64 (aV T ls).2.2])∧Below w.heap.size w w'
set_option maxHeartbeats 4000000 in
theorem xR {S:Nat→Prop} {g:Nat→Own} {D:Nat→Prop} {p mb:Nat} {ib nb:Int→Nat} {T:aI} (a:Option Addr) (n c:Nat) (ls:List Nm) (w:World) (h:aK g D w p mb ib nb T) (hT:dR T) (hS:aW S w a n (ls.map strOf)) (hc:n≤c) (pE:n≤1000000):
  Calls Tryz.prog 60 #[ptr p, .slice a n c] w (qU T ib ls w):=by
 have hln:ls.length=n:=by have:=hS.length;simpa using this
 have HH:=Lib.hid h
 have HT:=Lib.hid hT
 have HL:=Lib.hid hln
 have hpar:=Cb a n c (ls.map strOf) w hS (by omega) hc
 have HP:=Lib.hid hpar
 clear h hT hS hln hpar
 by_cases hl0:ls=[]
 ·subst hl0
  go_enter Tryz.func60,Tryz.ntmps60
  go_wp2_with fail
  (with_reducible refine HP.out.mono ?_)
  rintro e w1 (⟨_,rfl,rfl⟩|⟨_,_,x,hx,_⟩)
  ·go_wp2_with fail
   go_ret3
   exact⟨rfl,Below.refl _ _⟩
  ·cases hx
 ·have OP:=Lib.hid hl0
  clear hl0
  go_enter Tryz.func60,Tryz.ntmps60
  go_wp2_with fail
  (with_reducible refine HP.out.mono ?_)
  rintro e w1 (⟨h0,_⟩|⟨gb,cap,x,hx,rfl,hca,hS1,hb1⟩)
  ·exact absurd (List.map_eq_nil_iff.1 h0) OP.out
  ·have hdl:(ls.map strOf).dropLast=ls.dropLast.map strOf:=by simp[List.map_dropLast]
   rw[hdl]at hS1
   have hxl:x=strOf (ls.getLastD []):=by
    rw[List.getLast?_map]at hx
    cases hq:ls.getLast? with
    |none=>rw[hq]at hx;cases hx
    |some y=>
     rw[hq]at hx
     simp only[Option.map_some,Option.some.injEq]at hx
     rw[←hx]
     cases ls with
     |nil=>cases hq
     |cons z r=>rw[List.getLast?_eq_some_getLast (by simp)]at hq;simp only[Option.some.injEq]at hq;rw[←hq,List.getLastD_eq_getLast?,List.getLast?_eq_some_getLast (by simp)];rfl
   subst hxl
   obtain⟨m,hm⟩:∃m,m=(ls.map strOf).length-1:=⟨_,rfl⟩
   obtain⟨nl,hnl⟩:∃nl,nl=ls.getLastD []:=⟨_,rfl⟩
   rw[←hm]at hS1 hca⊢
   rw[←hnl]at hx⊢
   have LJ:=Lib.hid hnl
   clear hm hnl
   have hb1s:=hb1.size
   have hA1:=HH.out.below hb1 (Nat.le_refl _)
   have sw:=Lib.hid (Ag (some ⟨gb,0,none⟩) m cap ls.dropLast w1 hA1 HT.out hS1)
   have HA1:=Lib.hid hA1
   have HB1:=Lib.hid hb1
   clear hA1 hb1 hx hdl hS1 HP hca
   obtain⟨hc0,hpw,hmw⟩:=HA1.out.cell
   have hmap:=Lib.hid HA1.out.map
   by_cases he:(aY T 0 ls.dropLast).2=0
   ·obtain⟨y,hy⟩:=Option.isSome_iff_exists.1 (je HT.out ls.dropLast 0 (gG HT.out) he)
    have HE:=Lib.hid he
    obtain⟨d,hd⟩:∃d,d=(aY T 0 ls.dropLast).1:=⟨_,rfl⟩
    rw[←hd]at hy sw
    rw[he]at sw
    have HD:=Lib.hid hd
    have HY:=Lib.hid hy
    clear hy he hd
    have sD:=HT.out.ids d y HY.out
    have hok:b_.ok d:=tO sD.1 (by omega)
    obtain⟨c0,c1,c2,c3,c4,c5,c7,hiw⟩:=(HA1.out.item d y HY.out).cell
    have hget:aF d (T.map fun q=>(q.1,ptr (ib q.1)))=some (ptr (ib d)):=by rw[fH,HY.out];rfl
    have HG:=Lib.hid hget
    have hkm:fG T (aY T 0 ls.dropLast).1=y.kind:=by rw[←HD.out];unfold fG;rw[HY.out]
    have Zm:=Lib.hid hkm
    clear hget hkm c7
    by_cases hk2:y.kind=2
    ·have hpl:aV T ls=(d,nl,0):=by
      unfold aV
      rw[if_neg OP.out,if_neg (by rw[HE.out];simp),if_pos (Zm.out.trans hk2),←HD.out,←LJ.out]
     have BK:=Lib.hid hpl
     rw[hk2]at c1
     clear hk2 hpl
     go_wp2_with fail
     (with_reducible refine sw.out.mono ?_)
     rintro e w2 ⟨rfl,rfl⟩
     go_wp2_with (first|(at_lookup;refine eF b_ rfl _ _ 94 92 rfl Tryz.underlying94 (Tryz.fI _) rfl hmap.out d rfl hok ?_;rw[HG.out]))
     go_ret3
     exact⟨by rw[BK.out];rfl,HB1.out⟩
    ·have hpl:aV T ls=(0,[],23):=by
      unfold aV
      rw[if_neg OP.out,if_neg (by rw[HE.out];simp),if_neg (by rw[Zm.out];exact hk2)]
     have BK:=Lib.hid hpl
     have e1:(y.kind==2)=false:=by simpa using hk2
     clear hk2 hpl
     go_wp2_with fail
     (with_reducible refine sw.out.mono ?_)
     rintro e w2 ⟨rfl,rfl⟩
     go_wp2_with (first|(at_lookup;refine eF b_ rfl _ _ 94 92 rfl Tryz.underlying94 (Tryz.fI _) rfl hmap.out d rfl hok ?_;rw[HG.out]))
     go_ret3
     exact⟨by rw[BK.out];rfl,HB1.out⟩
   ·have hpl:aV T ls=(0,[],(aY T 0 ls.dropLast).2):=by
     unfold aV
     rw[if_neg OP.out,if_pos he]
    have hne:((aY T 0 ls.dropLast).2==0)=false:=by simpa using he
    have BK:=Lib.hid hpl
    have HE:=Lib.hid he
    generalize hgg:aY T 0 ls.dropLast=r at sw hne HE BK
    have HGG:=Lib.hid hgg
    clear hpl he hgg
    go_wp2_with fail
    (with_reducible refine sw.out.mono ?_)
    rintro e w2 ⟨rfl,rfl⟩
    go_wp2_with fail
    go_ret3
    exact⟨by rw[BK.out,if_neg HE.out];rfl,HB1.out⟩
end Go.Proofs.YtohpcppeajijnaaGreat
