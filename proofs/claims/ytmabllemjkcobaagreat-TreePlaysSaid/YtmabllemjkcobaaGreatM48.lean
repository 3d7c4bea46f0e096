/- What the law asks of Names, plainly. How many nodes have a lesser ID. slices.Clone of texts: the new row is one's own. What names of package tree gives: paths, behind what was there. path.Join; what Names of package tree orders by. What is said of names of package tree, plainly: pieces for its walk. -/
import Derived.Test.YtmabllemjkcobaaGreatM36
import Derived.Test.YtmabllemjkcobaaGreatM10
import Derived.Test.YtmabllemjkcobaaGreatM12
import Derived.Test.YtmabllemjkcobaaGreatM34
namespace Go.Proofs.YtmabllemjkcobaaGreat
open Go.ChangeShapes Go.WideShapes Go.ChangeAt Go.RowKit
set_option linter.unusedVariables false
set_option linter.unusedSimpArgs false
def pV (T:aG) (id:Int):List (List Nm):=gZ T id 8 0 []
theorem oJ {T:aG} (hO:fG T) {id:Int} {q:List Nm}:q∈pV T id↔aH T 0 q=(id,0):=by
 obtain⟨hT,dep,hd⟩:=hO
 unfold pV
 rw[t_ hT 8 0 [] q (eF hT) (hd.JZ hT 0)]
 constructor
 ·rintro ⟨s,h1,h2⟩
  rw[List.nil_append]at h1
  rw[h1]
  exact h2
 ·exact fun h=>⟨q,rfl,h⟩
theorem DC {T:aG} {dep:Int→Nat} (hT:dX T) (hd:dQ T dep):∀(q:List Nm) (a id:Int),aH T a q=(id,0)→(∀n∈q,dw n=true)∧(q≠[]→dep a+q.length≤8)
 |[],a,id,h=>⟨fun n hn=>by simp at hn,fun h=>absurd rfl h⟩
 |m::r,a,id,h=>by
  obtain⟨x,k,hx,hk,hn,hr⟩:=jy h
  have hm:=bP hn
  have hu:=hd.up a x hx _ hm
  obtain⟨h1,h2⟩:=DC hT hd r k id hr
  refine⟨fun n hn'=> ?_,fun _=> ?_⟩
  ·rcases List.mem_cons.1 hn' with rfl|h3
   ·exact(hT.each a x hx).good _ hm
   ·exact h1 n h3
  ·cases r with
   |nil=>simp only[List.length_cons,List.length_nil];omega
   |cons m' r'=>
    have h3:=h2 (by simp)
    obtain⟨y,k',hy,hk',_,_⟩:=jy hr
    have:=hu.2 ((bQ hy).trans hk')
    simp only at this
    simp only[List.length_cons]at h3⊢
    omega
theorem DF {T:aG} (hO:fG T) {q:List Nm} {id:Int} (h:aH T 0 q=(id,0)):q.length≤8∧(∀n∈q,dw n=true)∧bS q=0∧fE T q=(id,0):=by
 obtain⟨hT,dep,hd⟩:=hO
 obtain⟨h1,h2⟩:=DC hT hd q 0 id h
 have hl:q.length≤8:=by
  by_cases hq:q=[]
  ·rw[hq];decide
  ·have:=h2 hq;omega
 have hf:bS q=0:=by
  unfold bS
  have ha:q.any (fun x=> !dw x)=false:=by
   rw[List.any_eq_false]
   intro x hx
   rw[h1 x hx]
   decide
  rw[ha]
  simp only[Bool.false_eq_true,if_false]
  rw[if_neg (by omega)]
 refine⟨hl,h1,hf,?_⟩
 unfold fE
 rw[if_neg (by simp[hf])]
 exact h
theorem xO {T:aG} (hT:dX T):∀(q:List Nm) (a:Int),aH T a q=(0,0)→q≠[]→False
 |[],a,h,hq=>hq rfl
 |m::r,a,h,_=>by
  obtain⟨x,k,hx,hk,hn,hr⟩:=jy h
  have hl:=hT.leads a x hx _ (bP hn)
  cases r with
  |nil=>
   have:k=0:=congrArg Prod.fst hr
   exact hl.2 this
  |cons m' r'=>exact xO hT _ k hr (by simp)
theorem Md {T:aG} (hO:fG T):pV T 0=[[]]:=by
 have hnd:(pV T 0).Nodup:=mD hO.1 8 0 []
 have h0:([]:List Nm)∈pV T 0:=(oJ hO).2 rfl
 have hall:∀q∈pV T 0,q=[]:=fun q hq=>by
  by_cases hq0:q=[]
  ·exact hq0
  ·exact(xO hO.1 q 0 ((oJ hO).1 hq) hq0).elim
 generalize pV T 0=l at hnd h0 hall
 match l,hnd,h0,hall with
 |[q],_,_,hall=>rw[hall q (by simp)]
 |q::q'::r,hnd,_,hall=>
  have h1:=hall q (by simp)
  have h2:=hall q' (by simp)
  rw[h1,h2]at hnd
  simp at hnd
theorem Pt {T:aG} (hO:fG T) {id:Int} {x:bW} (hx:aj id T=some x):((pV T id).length:Int)=if id=0 then 1 else x.links:=by
 by_cases h0:id=0
 ·rw[if_pos h0,h0,Md hO];rfl
 ·rw[if_neg h0,←hO.1.counts id x hx h0]
  unfold pV
  rw[yG hO h0]
theorem Jo {T:aG} (hO:fG T) {id:Int} {x:bW} (hx:aj id T=some x):((pV T id).length:Int)=x.links:=by
 rw[Pt hO hx]
 by_cases h0:id=0
 ·rw[if_pos h0]
  have hr:=hO.1.root
  rw[←h0,bQ hx]at hr
  rw[((hO.1.each id x hx).dir hr).1]
 ·rw[if_neg h0]
theorem DI {T:aG} (hO:fG T) {id:Int} (hx:aj id T=none):pV T id=[]:=by
 rw[List.eq_nil_iff_forall_not_mem]
 intro q hq
 have hl:=(oJ hO).1 hq
 have:=fP hO.1 q 0 (eF hO.1) (by rw[hl])
 rw[hl,hx]at this
 cases this
theorem Ez {T:aG} (hO:fG T) (id:Int):(pV T id).length≤64:=by
 cases hx:aj id T with
 |none=>rw[DI hO hx];simp
 |some x=>
  have h1:=Jo hO hx
  have h2:=(hO.1.each id x hx).links
  omega
def VI (w:World) (n:Nat) (ss:List ByteArray) (e:Ending) (w':World):Prop:=∃v,e= .returned v∧w'.ownsRow w.heap.size 9 1 v n (ss.map .string)∧Below w.heap.size w w'
theorem uT {S:Nat→Prop} (a:Option Addr) (len cap:Nat) (ss:List ByteArray) (w:World) (h:aK S w a len ss) (hsz:len≤1000000):
  Calls Tryz.prog 169 #[.slice a len cap] w (VI w len ss):=by
 have hl:=h.length
 cases a with
 |none=>
  have h0:len=0:=by
   rcases Nat.eq_zero_or_pos len with h0|h0
   ·exact h0
   ·obtain⟨_,_,e,_⟩:=h.row.at_ h0
    cases e
  subst h0
  obtain rfl:ss=[]:=by simpa using hl
  refine(Tryz.slices_Clone_string_nil 0 cap w).mono ?_
  rintro e w' ⟨rfl,rfl⟩
  exact⟨_,rfl,⟨rfl, .inl ⟨rfl,rfl⟩⟩,Below.refl _ _⟩
 |some ad=>
  by_cases h0:len=0
  ·subst h0
   obtain rfl:ss=[]:=by simpa using hl
   refine(Tryz.slices_Clone_string_zero ad cap w).mono ?_
   rintro e w' ⟨v,rfl,ho,hv,hb⟩
   exact⟨v,rfl,ho,hb⟩
  ·obtain⟨b,off,e,_,_,_⟩:=h.row.at_ (by omega)
   simp only[Option.some.injEq]at e
   subst e
   refine(Tryz.slices_Clone_string b off len cap ss w (by omega) (by omega) (fun j hj=>p8 h j hj)).mono ?_
   rintro e w' ⟨v,rfl,ho,hv,hb⟩
   rw[List.take_of_length_le (by omega)]at ho
   exact⟨v,rfl,ho,hb⟩
def fF (S:Nat→Prop) (w:World) (u:Value) (q:List Nm):Prop:=∃a c,u= .slice a q.length c∧q.length≤c∧aK S w a q.length (q.map strOf)
def iU (S:Nat→Prop) (w:World) (vals:List Value) (l:List (List Nm)):Prop:=vals.length=l.length∧∀(i:Nat) (q:List Nm),l[i]? =some q→∃u,vals[i]? =some u∧fF S w u q
theorem fF.move {S S':Nat→Prop} {w w':World} {u:Value} {q:List Nm} (h:fF S w u q) (hs:w.heap.size≤w'.heap.size) (hk:∀b,S b→b<w.heap.size→S' b∧w'.heap[b]? =w.heap[b]?):fF S' w' u q:=by
 obtain⟨a,c,h1,h2,h3⟩:=h
 exact⟨a,c,h1,h2,h3.row.move hs hk,h3.short⟩
theorem iU.move {S S':Nat→Prop} {w w':World} {vals:List Value} {l:List (List Nm)} (h:iU S w vals l) (hs:w.heap.size≤w'.heap.size) (hk:∀b,S b→b<w.heap.size→S' b∧w'.heap[b]? =w.heap[b]?):iU S' w' vals l:=
 ⟨h.1,fun i q hq=>by
  obtain⟨u,h1,h2⟩:=h.2 i q hq
  exact⟨u,h1,h2.move hs hk⟩⟩
theorem iU.append {S:Nat→Prop} {w:World} {v1 v2:List Value} {l1 l2:List (List Nm)} (h:iU S w v1 l1) (k:iU S w v2 l2):iU S w (v1++v2) (l1++l2):=by
 refine⟨by rw[List.length_append,List.length_append,h.1,k.1],fun i q hq=> ?_⟩
 by_cases hi:i<l1.length
 ·rw[List.getElem?_append_left hi]at hq
  rw[List.getElem?_append_left (by rw[h.1];exact hi)]
  exact h.2 i q hq
 ·rw[List.getElem?_append_right (by omega)]at hq
  rw[List.getElem?_append_right (by rw[h.1];omega),h.1]
  exact k.2 _ q hq
def bV (B:Nat) (w:World) (v:Value) (m:Nat) (xs:List Value) (L:List (List Nm)) (v':Value) (w':World):Prop:=
 ∃vals l,l.Perm L∧w'.ownsRow B 26 1 v' (m+l.length) (xs++vals)∧iU (fun b=>w.heap.size≤b∧b<w'.heap.size∧v'.ownBlock≠some b) w' vals l∧Keeps (fun b=>v.ownBlock=some b) w w'∧∀b,v'.ownBlock=some b→v.ownBlock=some b∨w.heap.size≤b
theorem bV.refl {B:Nat} {w:World} {v:Value} {m:Nat} {xs:List Value} (h:w.ownsRow B 26 1 v m xs):bV B w v m xs [] v w:=
 ⟨[],[],List.Perm.refl _,by simpa using h,⟨rfl,fun i q hq=>by simp at hq⟩,Keeps.refl _ _,fun b hb=> .inl hb⟩
theorem bV.trans {B:Nat} {w w1 w2:World} {v v1 v2:Value} {m:Nat} {xs:List Value} {L1 L2:List (List Nm)} (h:bV B w v m xs L1 v1 w1) (k:∀m1 xs1,w1.ownsRow B 26 1 v1 m1 xs1→bV B w1 v1 m1 xs1 L2 v2 w2):bV B w v m xs (L1++L2) v2 w2:=by
 obtain⟨vals,l,hp,ho,hv,hK,hb⟩:=h
 obtain⟨Pv,l2,hp2,ho2,hv2,hK2,hb2⟩:=k _ _ ho
 have hs1:=hK.size
 have hs2:=hK2.size
 refine⟨vals++Pv,l++l2,hp.append hp2,by rw[List.length_append,←Nat.add_assoc,←List.append_assoc];exact ho2,?_,hK.trans hK2 fun x hx hx1=> ?_,fun b hb'=> ?_⟩
 ·refine(hv.move (by omega) fun b hS hbw=>⟨⟨hS.1,by omega,fun he=> ?_⟩,hK2.block b hbw fun he=>hS.2.2 he⟩).append (hv2.move (Nat.le_refl _) fun b hS hbw=>⟨⟨by omega,hS.2.1,hS.2.2⟩,rfl⟩)
  rcases hb2 b he with h1|h1
  ·exact hS.2.2 h1
  ·omega
 ·rcases hb x hx1 with h1|h1
  ·exact h1
  ·omega
 ·rcases hb2 b hb' with h1|h1
  ·exact hb b h1
  ·exact .inr (by omega)
theorem bV.perm {B:Nat} {w w':World} {v v':Value} {m:Nat} {xs:List Value} {L L':List (List Nm)} (h:bV B w v m xs L v' w') (hp:L.Perm L'):bV B w v m xs L' v' w':=by
 obtain⟨vals,l,h1,h2⟩:=h
 exact⟨vals,l,h1.trans hp,h2⟩
def A8 (l:List UInt8):ByteArray:=⟨l.toArray⟩
theorem wI (l:List UInt8):(A8 l).data.toList=l:=rfl
theorem Gv (l:List UInt8):(A8 l).size=l.length:=by simp[A8,ByteArray.size]
theorem A_ {a b:ByteArray} (h:a=b):Ending.returned (.string a)= .returned (.string b):=by rw[h]
theorem Gw {S:Nat→Prop} (a:Option Addr) (len cap:Nat) (ss:List ByteArray) (w:World) (h:aK S w a len ss) (hcap:len≤cap)
  (hlen:(Lib.join (y9 ss) [47]).length≤140737488355328) (hn:len≤140737488355328):
  Calls Tryz.prog 173 #[.slice a len cap, .string ⟨#[47]⟩] w fun e w'=>e= .returned (.string (A8 (Lib.join (y9 ss) [47])))∧Below w.heap.size w w':=by
 have hl:=h.length
 by_cases h0:len=0
 ·subst h0
  obtain rfl:ss=[]:=by simpa using hl
  refine(Tryz.strings_Join_none a cap ⟨#[47]⟩ w).mono ?_
  rintro e w' ⟨rfl,rfl⟩
  exact⟨rfl,Below.refl _ _⟩
 ·obtain⟨b,off,rfl,_,hbw,_⟩:=h.row.at_ (by omega)
  subst hl
  refine(Tryz.strings_Join b off cap ss ⟨#[47]⟩ w (fun j x hx=> ?_) hbw hn hcap hlen).mono ?_
  ·have hj:=(List.getElem?_eq_some_iff.1 hx).1
   rw[p8 h j hj]
   simp[List.getD,hx]
  ·rintro e w' ⟨rfl,hb⟩
   exact⟨rfl,hb⟩
theorem Pw {S:Nat→Prop} (a:Option Addr) (len cap:Nat) (ss:List ByteArray) (w:World) (h:aK S w a len ss) (hcap:len≤cap)
  (hlen:(Lib.join (y9 ss) [47]).length≤140737488355327) (hn:len≤140737488355328):
  Calls Tryz.prog 132 #[.slice a len cap] w fun e w'=>e= .returned (.string (A8 (bK (y9 ss))))∧Below w.heap.size w w':=by
 have hsz:(A8 (Lib.join (y9 ss) [47])).size≤140737488355327:=by rw[Gv];exact hlen
 go_enter Tryz.func132,Tryz.ntmps132
 go_wp2_with fail
 refine(Gw _ _ _ ss _ h hcap (by omega) hn).mono ?_
 rintro e w1 ⟨rfl,hb⟩
 go_wp2_with fail
 go_ret
 refine⟨A_ (WideShapes.bytes_inj ?_),hb⟩
 simp[wI,bK]
def Small (q:List Nm):Prop:=q.length≤64∧∀n∈q,n.length≤16
theorem Ba:∀(q:List Nm),(∀n∈q,n.length≤16)→Lib.lens q≤16*q.length
 |[],_=>by simp[Lib.lens]
 |x::r,h=>by
  have h1:=h x (by simp)
  have h2:=Ba r fun n hn=>h n (by simp[hn])
  simp only[Lib.lens,List.map_cons,List.sum_cons,List.length_cons]at h2⊢
  omega
theorem Bb {q:List Nm} (h:Small q):(Lib.join q [47]).length≤2000:=by
 cases q with
 |nil=>simp[Lib.join_nil]
 |cons x r=>
  have h1:=Ba _ h.2
  have h2:=h.1
  rw[Lib.join_length]
  simp only[List.length_cons,List.length_nil]at h1 h2⊢
  omega
theorem DJ {S:Nat→Prop} {w:World} {u:Value} {q:List Nm} (h:fF S w u q) (hq:Small q):Calls Tryz.prog 132 #[u] w fun e w'=>e= .returned (.string (A8 (bK q)))∧Below w.heap.size w w':=by
 obtain⟨a,c,rfl,hc,hs⟩:=h
 have hj:=Bb hq
 have hl:=hq.1
 have:=Pw a q.length c (q.map strOf) w hs hc (by rw[nN];omega) (by omega)
 rw[nN]at this
 exact this
theorem Gx {S1 S2:Nat→Prop} {w:World} {u1 u2:Value} {q1 q2:List Nm} (h1:fF S1 w u1 q1) (h2:fF S2 w u2 q2) (hq1:Small q1) (hq2:Small q2):
  Calls Tryz.prog 130 #[u1,u2] w fun e w'=>e= .returned (.int .i64 (Lib.compareBytes (bK q1) (bK q2)))∧Below w.heap.size w w':=by
 have jD:=Lib.hid (DJ h1 hq1)
 have HJ2:Hid (∀w',Below w.heap.size w w'→Calls Tryz.prog 132 #[u2] w' fun e w''=>e= .returned (.string (A8 (bK q2)))∧Below w'.heap.size w' w''):=fun w' hb=>DJ (h2.move (S':=fun _=>True) hb.size fun b hb' hbw=>⟨trivial,hb.block b hbw⟩) hq2
 have HC:=Tryz.strings_Compare (A8 (bK q1)) (A8 (bK q2))
 rw[wI,wI]at HC
 obtain⟨J1,hj1⟩:∃J1,J1=A8 (bK q1):=⟨_,rfl⟩
 obtain⟨J2,hj2⟩:∃J2,J2=A8 (bK q2):=⟨_,rfl⟩
 obtain⟨z,hz⟩:∃z,z=Lib.compareBytes (bK q1) (bK q2):=⟨_,rfl⟩
 rw[←hj1]at jD HC
 rw[←hj2]at HJ2 HC
 rw[←hz]at HC⊢
 have Y7:=Lib.hid HC
 clear hj1 hj2 hz HC h1 h2
 go_enter Tryz.func130,Tryz.ntmps130
 go_wp2_with fail
 (with_reducible refine jD.out.mono ?_)
 rintro e w1 ⟨rfl,hb1⟩
 have HB1:=Lib.hid hb1
 clear hb1
 go_wp2_with fail
 (with_reducible refine(HJ2.out w1 HB1.out).mono ?_)
 rintro e w2 ⟨rfl,hb2⟩
 have HB2:=Lib.hid (HB1.out.trans (hb2.mono HB1.out.size))
 clear hb2
 go_wp2_with fail
 (with_reducible refine(Y7.out _).mono ?_)
 rintro e w3 ⟨rfl,rfl⟩
 go_wp2_with fail
 go_ret
 exact⟨rfl,HB2.out⟩
theorem fF.mM {w:World} {base:Nat} {v:Value} {n:Nat} {q:List Nm} (h:w.ownsRow base 9 1 v n ((q.map strOf).map .string)) (hs:∀k∈q,k.length≤maxLen):fF (fun b=>base≤b∧b<w.heap.size) w v q:=by
 obtain⟨a,c,rfl,hc⟩:=jo h
 obtain⟨_,hr⟩:=aC.mM h
 have hn:q.length=n:=by simpa using hr.length
 subst hn
 refine⟨a,c,rfl,hc,hr,fun s hs'=> ?_⟩
 obtain⟨k,hk,rfl⟩:=List.mem_map.1 hs'
 rw[fV]
 exact hs k hk
theorem fF.weak {S S':Nat→Prop} {w:World} {u:Value} {q:List Nm} (h:fF S w u q) (hS:∀b,b<w.heap.size→S b→S' b):fF S' w u q:=
 h.move (Nat.le_refl _) fun b hb hbw=>⟨hS b hbw hb,rfl⟩
theorem bV.push {B:Nat} {w w1 w2:World} {v v' cv:Value} {m:Nat} {xs:List Value} {q:List Nm} {o:Obj} (hv:w.ownsRow B 26 1 v m xs) (hB1:Below w.heap.size w w1) (hc:w1.ownsRow w.heap.size 9 1 cv q.length ((q.map strOf).map .string)) (hq:∀k∈q,k.length≤maxLen)
  (hown:w2.ownsRow B 26 1 v' (m+1) (xs++[cv])) (hg:(w1.alloc o).grownBy w2 v.ownBlock) (hat:v'.ownBlock=v.ownBlock∨v'.ownBlock=some (w1.alloc o).heap.size):bV B w v m xs [q] v' w2:=by
 have hs1:=hB1.size
 have hs2:=hg.size
 have hsa:(w1.alloc o).heap.size=w1.heap.size+1:=by simp
 have hvb:∀b,v'.ownBlock=some b→v.ownBlock=some b∨w1.heap.size<b:=fun b hb=>by
  rcases hat with h|h
  ·exact .inl (h▸hb)
  ·rw[h]at hb
   cases hb
   exact .inr (by omega)
 have hP:=fF.mM hc hq
 have hold:∀b,b<w1.heap.size→v.ownBlock≠some b→w2.heap[b]? =w1.heap[b]? :=fun b hb hne=>(hg.block b (by omega) (fun e=>hne e.symm)).trans ((MapKept.heap_alloc w1 o).2 b hb)
 refine⟨[cv],[q],List.Perm.refl _,hown,⟨rfl,fun i p hp=> ?_⟩,?_,fun b hb=> ?_⟩
 ·match i,hp with
  |0,hp=>
   obtain rfl:q=p:=by simpa using hp
   refine⟨cv,rfl,hP.move (by omega) fun b hb hbw=>⟨⟨hb.1,by omega,fun he=> ?_⟩,hold b hbw fun he=> ?_⟩⟩
   ·rcases hvb b he with h1|h1
    ·have:=mU hv b h1
     omega
    ·omega
   ·have:=mU hv b he
    omega
 ·exact⟨hg.os.trans hB1.os,hg.tape.trans hB1.tape,hg.output.trans hB1.output,by omega,fun b hb hn=>(hold b (by omega) hn).trans (hB1.block b hb)⟩
 ·rcases hvb b hb with h1|h1
  ·exact .inl h1
  ·exact .inr (by omega)
theorem bV.own {B:Nat} {w w1:World} {v v1:Value} {m:Nat} {xs:List Value} {L1:List (List Nm)} (h:bV B w v m xs L1 v1 w1):
  ∃m1 xs1,m1=m+L1.length∧w1.ownsRow B 26 1 v1 m1 xs1∧∀L2 v2 w2,bV B w1 v1 m1 xs1 L2 v2 w2→bV B w v m xs (L1++L2) v2 w2:=by
 obtain⟨vals,l,hp,ho,hv,hK,hb⟩:=h
 refine⟨m+l.length,xs++vals,by rw[hp.length_eq],ho,fun L2 v2 w2 k=> ?_⟩
 obtain⟨Pv,l2,hp2,ho2,hv2,hK2,hb2⟩:=k
 have hs1:=hK.size
 have hs2:=hK2.size
 refine⟨vals++Pv,l++l2,hp.append hp2,by rw[List.length_append,←Nat.add_assoc,←List.append_assoc];exact ho2,?_,hK.trans hK2 fun x hx hx1=> ?_,fun b hb'=> ?_⟩
 ·refine(hv.move (by omega) fun b hS hbw=>⟨⟨hS.1,by omega,fun he=> ?_⟩,hK2.block b hbw fun he=>hS.2.2 he⟩).append (hv2.move (Nat.le_refl _) fun b hS hbw=>⟨⟨by omega,hS.2.1,hS.2.2⟩,rfl⟩)
  rcases hb2 b he with h1|h1
  ·exact hS.2.2 h1
  ·omega
 ·rcases hb x hx1 with h1|h1
  ·exact h1
  ·omega
 ·rcases hb2 b hb' with h1|h1
  ·exact hb b h1
  ·exact .inr (by omega)
theorem bV.below {B:Nat} {w w1 w2:World} {v v1:Value} {m:Nat} {xs:List Value} {L:List (List Nm)} (h:bV B w v m xs L v1 w1) (hb:Below w1.heap.size w1 w2):bV B w v m xs L v1 w2:=by
 obtain⟨vals,l,hp,ho,hv,hK,hbl⟩:=h
 have hs:=hb.size
 exact⟨vals,l,hp,kQ ho fun b _ hbw=>hb.block b hbw,hv.move hs fun b hS hbw=>⟨⟨hS.1,by omega,hS.2.2⟩,hb.block b hbw⟩,hK.trans (Keeps.below hb) (fun x hx hx'=>by have:=hK.size;omega),hbl⟩
theorem bV.keeps {B:Nat} {w w1:World} {v v1:Value} {m:Nat} {xs:List Value} {L:List (List Nm)} (h:bV B w v m xs L v1 w1):Keeps (fun b=>v.ownBlock=some b) w w1:=by
 obtain⟨_,_,_,_,_,hK,_⟩:=h
 exact hK
theorem bV.new {B:Nat} {w w1:World} {v v1:Value} {m:Nat} {xs:List Value} {L:List (List Nm)} (h:bV B w v m xs L v1 w1):∀b,v1.ownBlock=some b→v.ownBlock=some b∨w.heap.size≤b:=by
 obtain⟨_,_,_,_,_,_,hb⟩:=h
 exact hb
theorem bV.path {B:Nat} {w w1:World} {v v1 u:Value} {m:Nat} {xs:List Value} {L:List (List Nm)} {q:List Nm} (h:bV B w v m xs L v1 w1) (hp:fF (fun b=>v.ownBlock≠some b) w u q):fF (fun b=>b<w.heap.size∧v1.ownBlock≠some b) w1 u q:=
 hp.move h.keeps.size fun b hb hbw=>⟨⟨hbw,fun he=>by
  rcases h.new b he with h1|h1
  ·exact hb h1
  ·omega⟩,h.keeps.block b hbw hb⟩
theorem fF.off {S:Nat→Prop} {w:World} {u:Value} {q:List Nm} {r:Nat} (h:fF S w u q) (hr:∀i,w.cell? ⟨r,i,none⟩=none):fF (fun b=>S b∧b≠r) w u q:=by
 obtain⟨a,c,h1,h2,h3⟩:=h
 refine⟨a,c,h1,h2,⟨h3.row.length,h3.row.small,fun h0=> ?_⟩,h3.short⟩
 obtain⟨b,off,e,hS,hb,hc⟩:=h3.row.at_ h0
 refine⟨b,off,e,⟨hS,fun he=> ?_⟩,hb,hc⟩
 have hl:=h3.row.length
 have h4:=hc 0 h0
 rw[he,hr,List.getElem?_eq_getElem (by omega)]at h4
 cases h4
theorem iU.off {S:Nat→Prop} {w:World} {vals:List Value} {l:List (List Nm)} {r:Nat} (h:iU S w vals l) (hr:∀i,w.cell? ⟨r,i,none⟩=none):iU (fun b=>S b∧b≠r) w vals l:=
 ⟨h.1,fun i q hq=>by
  obtain⟨u,h1,h2⟩:=h.2 i q hq
  exact⟨u,h1,h2.off hr⟩⟩
theorem bV.iter {B:Nat} {w w1 w2:World} {v v1:Value} {m:Nat} {xs:List Value} {L:List (List Nm)} {r:Nat} (h:bV B w v m xs L v1 w1) (hK:Keeps (fun b=>b=r) w1 w2) (hr:∀i,w1.cell? ⟨r,i,none⟩=none) (hwr:w.heap.size≤r) (hne:v1.ownBlock≠some r):bV B w v m xs L v1 w2:=by
 obtain⟨vals,l,hp,ho,hv,hK1,hbl⟩:=h
 have hs:=hK.size
 refine⟨vals,l,hp,kQ ho fun b hb hbw=>hK.block b hbw fun he=>hne (he▸hb),((hv.off hr).move hs fun b hS hbw=>⟨⟨hS.1.1,by omega,hS.1.2.2⟩,hK.block b hbw hS.2⟩),hK1.trans hK (fun x hx hx'=>by omega),hbl⟩
theorem eP.VJ {w:World} {b r cnt:Nat} {l:List (Nm×Value)} {left:Nm→Bool} (h:eP dN w b r l left cnt):∀i,w.cell? ⟨r,i,none⟩=none:=by
 obtain⟨L,⟨es,clock,since,seen,c0,hb,hF,hs,hD,hr,rest⟩,hL⟩:=h
 intro i
 simp only[World.cell?,hr]
theorem bV.tree {g:Nat→Own} {D:Nat→Prop} {p mb:Nat} {ib nb:Int→Nat} {T:aG} {B:Nat} {w w1:World} {v v1:Value} {m:Nat} {xs:List Value} {L:List (List Nm)} (h:bV B w v m xs L v1 w1) (hv:w.ownsRow B 26 1 v m xs) (hT:aO g D w p mb ib nb T) (hB:∀b,g b≠ .none∨D b→b<B):aO g D w1 p mb ib nb T:=
 hT.keeps h.keeps fun b hb he=>by have:=gB hv b he;have:=hB b hb;omega
theorem Gy {α:Type} (f:Nm×Int→List α) (left:Nm→Bool):∀l:List (Nm×Int),((doneN left l).flatMap f).length≤(l.flatMap f).length
 |[]=>by simp[doneN]
 |y::r=>by
  have ih:=Gy f left r
  unfold doneN at ih⊢
  rw[List.filter_cons]
  split
  ·simp only[List.flatMap_cons,List.length_append];omega
  ·simp only[List.flatMap_cons,List.length_append];omega
end Go.Proofs.YtmabllemjkcobaaGreat
