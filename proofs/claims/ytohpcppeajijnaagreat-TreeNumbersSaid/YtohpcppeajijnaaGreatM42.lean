/- A tree and the reference's, under marks of their own. Literals laid one behind the other; lists of paths, and of pairs of paths. Literal paths, laid one behind the other in a walk: the worlds stay variables. permafrostref13: Live. The reference's snapshots (permafrostref13), in memory, under a mark. permafrostref13: Forget. A drawn region: an operation that its guard does not want, in one line. package snap: Save. permafrostref13: Save. -/
import Derived.Test.YtohpcppeajijnaaGreatM29
import Derived.Test.YtohpcppeajijnaaGreatM37
import Derived.Test.YtohpcppeajijnaaGreatM06
import Derived.Test.YtohpcppeajijnaaGreatM41
import Derived.Test.YtohpcppeajijnaaGreatM25
import Derived.Test.YtohpcppeajijnaaGreatM39
import Derived.Test.YtohpcppeajijnaaGreatM14
import Derived.Test.YtohpcppeajijnaaGreatM23
import Derived.Test.YtohpcppeajijnaaGreatM13
import Derived.Test.YtohpcppeajijnaaGreatM18
import Derived.Test.YtohpcppeajijnaaGreatM21
import Derived.Test.YtohpcppeajijnaaGreatM40
namespace Go.Proofs.YtohpcppeajijnaaGreat
open Go.ChangeShapes Go.WideShapes Go.ChangeAt Go.RowKit
set_option linter.unusedVariables false
set_option linter.unusedSimpArgs false
structure T2 (W:World) (o:Mark) (w:World) (t y:Nat) (T U:aH):Prop where
 marks:Marks W o w
 tr:eU o 1 w t T
 rt:jB o 2 w y U
 Dc:fQ T
 Df:fQ U
def I2 (k:Nat):Prop:=1≤k∧k≤2
theorem I2.vT:¬I2 0:=fun h=>by have:=h.1;omega
section
variable {W w:World} {o:Mark} {t y:Nat} {T U:aH}
theorem T2.wJ (h:T2 W o w t y T U):dA T:=h.Dc.1
theorem T2.vU (h:T2 W o w t y T U):dA U:=h.Df.1
theorem T2.grow (h:T2 W o w t y T U) {w':World} (hb:Below w.heap.size w w'):T2 W o w' t y T U:=⟨h.marks.grow hb,h.tr.grow hb,h.rt.grow hb,h.Dc,h.Df⟩
theorem T2.tree (h:T2 W o w t y T U) {w':World} {o':Mark} {T':aH} (hs:Step o (fun k=>k=1) w o' w') (hT:eU o' 1 w' t T') (hk:fQ T'):T2 W o' w' t y T' U:=
 ⟨h.marks.step (by simp) hs,hT,h.rt.step (by simp) (by simp) hs,hk,h.Df⟩
theorem T2.ref (h:T2 W o w t y T U) {w':World} {o':Mark} {U':aH} (hs:Step o (fun k=>k=2) w o' w') (hR:jB o' 2 w' y U') (hk:fQ U'):T2 W o' w' t y T U':=
 ⟨h.marks.step (by simp) hs,h.tr.step (by simp) (by simp) hs,hR,h.Dc,hk⟩
theorem T2.zero (h:T2 W o w t y T U) {b:Nat} (hb:w.heap.size≤b):o b=0:=Decidable.byContradiction fun h0=>by have:=(h.marks.new b h0).2;omega
def nV (W:World) (o:Mark) (w:World) (t y:Nat) (T U:aH) (w':World):Prop:=∃o',Step o I2 w o' w'∧T2 W o' w' t y T U
theorem gF {o o':Mark} {w w':World} {j:Nat} (h:Step o (fun k=>k=j) w o' w') (hj:1≤j∧j≤2):Step o I2 w o' w':=h.mono fun i hi=>by
 have e:i=j:=hi
 exact e▸hj
theorem T2.make {S:Nat→Prop} (h:T2 W o w t y T U) (a:Option Addr) (n c:Nat) (ls:List Nm) (kind:Int) (hS:aG S w a n (ls.map strOf)) (hc:n≤c) (jd:n≤1000000):
  Calls Tryz.prog 12 #[ptr t, .slice a n c, .int .i64 kind] w fun e w'=>e= .returned (.tuple #[.int .i64 (aL T ls kind).1.1, .int .i64 (aL T ls kind).1.2])∧nV W o w t y (aL T ls kind).2 U w':=by
 refine(J9 h.tr h.marks (by omega) h.wJ a n c ls kind hS hc jd).mono ?_
 rintro e w' ⟨rfl,o',hs,hT⟩
 exact⟨rfl,o',gF hs (by omega),h.tree hs hT (h.Dc.aL _ _)⟩
theorem T2.IC {S:Nat→Prop} (h:T2 W o w t y T U) (a:Option Addr) (n c:Nat) (ls:List Nm) (kind:Int) (hS:aG S w a n (ls.map strOf)) (hc:n≤c) (jd:n≤1000000):
  Calls Tryz.prog 13 #[ptr y, .slice a n c, .int .i64 kind] w fun e w'=>e= .returned (.tuple #[.int .i64 (aL U ls kind).1.1, .int .i64 (aL U ls kind).1.2])∧nV W o w t y T (aL U ls kind).2 w':=by
 refine(Kw h.rt h.marks h.vU a n c ls kind hS hc jd).mono ?_
 rintro e w' ⟨rfl,o',hs,hT⟩
 exact⟨rfl,o',gF hs (by omega),h.ref hs hT (h.Df.aL _ _)⟩
theorem T2.rmdir {S:Nat→Prop} (h:T2 W o w t y T U) (a:Option Addr) (n c:Nat) (ls:List Nm) (hS:aG S w a n (ls.map strOf)) (hc:n≤c) (jd:n≤1000000):
  Calls Tryz.prog 14 #[ptr t, .slice a n c] w fun e w'=>e= .returned (.int .i64 (cO T ls).1)∧nV W o w t y (cO T ls).2 U w':=by
 refine(G5 h.tr h.marks (by omega) h.wJ a n c ls hS hc jd).mono ?_
 rintro e w' ⟨rfl,o',hs,hT⟩
 exact⟨rfl,o',gF hs (by omega),h.tree hs hT (h.Dc.cO _)⟩
theorem T2.NA {S:Nat→Prop} (h:T2 W o w t y T U) (a:Option Addr) (n c:Nat) (ls:List Nm) (hS:aG S w a n (ls.map strOf)) (hc:n≤c) (jd:n≤1000000):
  Calls Tryz.prog 15 #[ptr y, .slice a n c] w fun e w'=>e= .returned (.int .i64 (cO U ls).1)∧nV W o w t y T (cO U ls).2 w':=by
 refine(Hq h.rt h.marks h.vU a n c ls hS hc jd).mono ?_
 rintro e w' ⟨rfl,o',hs,hT⟩
 exact⟨rfl,o',gF hs (by omega),h.ref hs hT (h.Df.cO _)⟩
theorem T2.unlink {S:Nat→Prop} (h:T2 W o w t y T U) (a:Option Addr) (n c:Nat) (ls:List Nm) (hS:aG S w a n (ls.map strOf)) (hc:n≤c) (jd:n≤1000000):
  Calls Tryz.prog 18 #[ptr t, .slice a n c] w fun e w'=>e= .returned (.int .i64 (bQ T ls).1)∧nV W o w t y (bQ T ls).2 U w':=by
 refine(En h.tr h.marks (by omega) h.wJ a n c ls hS hc jd).mono ?_
 rintro e w' ⟨rfl,o',hs,hT⟩
 exact⟨rfl,o',gF hs (by omega),h.tree hs hT (h.Dc.bQ _)⟩
theorem T2.KL {S:Nat→Prop} (h:T2 W o w t y T U) (a:Option Addr) (n c:Nat) (ls:List Nm) (hS:aG S w a n (ls.map strOf)) (hc:n≤c) (jd:n≤1000000):
  Calls Tryz.prog 19 #[ptr y, .slice a n c] w fun e w'=>e= .returned (.int .i64 (bQ U ls).1)∧nV W o w t y T (bQ U ls).2 w':=by
 refine(ED h.rt h.marks h.vU a n c ls hS hc jd).mono ?_
 rintro e w' ⟨rfl,o',hs,hT⟩
 exact⟨rfl,o',gF hs (by omega),h.ref hs hT (h.Df.bQ _)⟩
theorem T2.link {S S':Nat→Prop} (h:T2 W o w t y T U) (a:Option Addr) (n c:Nat) (ls:List Nm) (a':Option Addr) (n' c':Nat) (ls':List Nm) (hS:aG S w a n (ls.map strOf)) (hc:n≤c) (jd:n≤1000000) (hS':aG S' w a' n' (ls'.map strOf)) (hc':n'≤c') (ny:n'≤1000000):
  Calls Tryz.prog 16 #[ptr t, .slice a n c, .slice a' n' c'] w fun e w'=>e= .returned (.int .i64 (aO T ls ls').1)∧nV W o w t y (aO T ls ls').2 U w':=by
 refine(Kh h.tr h.marks (by omega) h.wJ a n c ls a' n' c' ls' hS hS' hc' ny).mono ?_
 rintro e w' ⟨rfl,o',hs,hT⟩
 exact⟨rfl,o',gF hs (by omega),h.tree hs hT (h.Dc.aO _ _)⟩
theorem T2.Qk {S S':Nat→Prop} (h:T2 W o w t y T U) (a:Option Addr) (n c:Nat) (ls:List Nm) (a':Option Addr) (n' c':Nat) (ls':List Nm) (hS:aG S w a n (ls.map strOf)) (hc:n≤c) (jd:n≤1000000) (hS':aG S' w a' n' (ls'.map strOf)) (hc':n'≤c') (ny:n'≤1000000):
  Calls Tryz.prog 17 #[ptr y, .slice a n c, .slice a' n' c'] w fun e w'=>e= .returned (.int .i64 (aO U ls ls').1)∧nV W o w t y T (aO U ls ls').2 w':=by
 refine(Ky h.rt h.marks h.vU a n c ls a' n' c' ls' hS hS' hc' ny).mono ?_
 rintro e w' ⟨rfl,o',hs,hT⟩
 exact⟨rfl,o',gF hs (by omega),h.ref hs hT (h.Df.aO _ _)⟩
theorem T2.rename {S S':Nat→Prop} (h:T2 W o w t y T U) (a:Option Addr) (n c:Nat) (ls:List Nm) (a':Option Addr) (n' c':Nat) (ls':List Nm) (hS:aG S w a n (ls.map strOf)) (hc:n≤c) (jd:n≤1000000) (hS':aG S' w a' n' (ls'.map strOf)) (hc':n'≤c') (ny:n'≤1000000):
  Calls Tryz.prog 93 #[ptr t, .slice a n c, .slice a' n' c'] w fun e w'=>e= .returned (.int .i64 (aY T ls ls').1)∧nV W o w t y (aY T ls ls').2 U w':=by
 refine(Eo h.tr h.marks (by omega) h.Dc a n c ls a' n' c' ls' hS hS' hc jd hc' ny).mono ?_
 rintro e w' ⟨rfl,o',hs,hT⟩
 exact⟨rfl,o',gF hs (by omega),h.tree hs hT (h.Dc.aY _ _)⟩
theorem T2.KM {S S':Nat→Prop} (h:T2 W o w t y T U) (a:Option Addr) (n c:Nat) (ls:List Nm) (a':Option Addr) (n' c':Nat) (ls':List Nm) (hS:aG S w a n (ls.map strOf)) (hc:n≤c) (jd:n≤1000000) (hS':aG S' w a' n' (ls'.map strOf)) (hc':n'≤c') (ny:n'≤1000000):
  Calls Tryz.prog 94 #[ptr y, .slice a n c, .slice a' n' c'] w fun e w'=>e= .returned (.int .i64 (aY U ls ls').1)∧nV W o w t y T (aY U ls ls').2 w':=by
 refine(EF h.rt h.marks h.Df a n c ls a' n' c' ls' hS hS' hc jd hc' ny).mono ?_
 rintro e w' ⟨rfl,o',hs,hT⟩
 exact⟨rfl,o',gF hs (by omega),h.ref hs hT (h.Df.aY _ _)⟩
theorem T2.append {S:Nat→Prop} (h:T2 W o w t y T U) (id:Int) (a:Option Addr) (l c:Nat) (bs:List UInt8) (hid:(Lit.int .i64 id).wf=true) (hr:ak S w a l (bs.map bv)) (hS:∀b,S b→o b=0) (hl:l≤1000000):
  Calls Tryz.prog 20 #[ptr t, .int .i64 id, .slice a l c] w fun e w'=>e= .returned (.int .i64 (bT T id bs).1)∧nV W o w t y (bT T id bs).2 U w':=by
 refine(Ei h.tr h.marks (by omega) h.wJ id a l c bs hid hr (by omega)).mono ?_
 rintro e w' ⟨rfl,o',hs,hT⟩
 exact⟨rfl,o',gF hs (by omega),h.tree hs hT (h.Dc.bT _ _)⟩
theorem T2.Dg {S:Nat→Prop} (h:T2 W o w t y T U) (id:Int) (a:Option Addr) (l c:Nat) (bs:List UInt8) (hid:(Lit.int .i64 id).wf=true) (hr:ak S w a l (bs.map bv)) (hS:∀b,S b→o b=0) (hl:l≤1000000):
  Calls Tryz.prog 22 #[ptr y, .int .i64 id, .slice a l c] w fun e w'=>e= .returned (.int .i64 (bT U id bs).1)∧nV W o w t y T (bT U id bs).2 w':=by
 refine(EG h.rt h.marks (by omega) h.vU id a l c bs hr hS hl).mono ?_
 rintro e w' ⟨rfl,o',hs,hT⟩
 exact⟨rfl,o',gF hs (by omega),h.ref hs hT (h.Df.bT _ _)⟩
theorem T2.Ls (h:T2 W o w t y T U) (id aQ:Int) (hid:(Lit.int .i64 id).wf=true) (ht:0≤aQ∧aQ≤18446744073709551615):
  Calls Tryz.prog 23 #[ptr t, .int .i64 id, .int .u64 aQ] w fun e w'=>e= .returned (.int .i64 (eF T id aQ).1)∧nV W o w t y (eF T id aQ).2 U w':=by
 refine(Ki h.tr h.marks (by omega) id aQ hid ht.1 ht.2).mono ?_
 rintro e w' ⟨rfl,o',hs,hT⟩
 exact⟨rfl,o',gF hs (by omega),h.tree hs hT (h.Dc.eF _ _ ht.1)⟩
theorem T2.IE (h:T2 W o w t y T U) (id aQ:Int) (hid:(Lit.int .i64 id).wf=true) (ht:0≤aQ∧aQ≤18446744073709551615):
  Calls Tryz.prog 24 #[ptr y, .int .i64 id, .int .u64 aQ] w fun e w'=>e= .returned (.int .i64 (eF U id aQ).1)∧nV W o w t y T (eF U id aQ).2 w':=by
 refine(Kz h.rt h.marks h.vU id aQ ht).mono ?_
 rintro e w' ⟨rfl,o',hs,hT⟩
 exact⟨rfl,o',gF hs (by omega),h.ref hs hT (h.Df.eF _ _ ht.1)⟩
theorem T2.keep (h:T2 W o w t y T U) (id aQ:Int) (hid:(Lit.int .i64 id).wf=true) (ht:0≤aQ∧aQ≤18446744073709551615):
  Calls Tryz.prog 25 #[ptr t, .int .i64 id, .int .u64 aQ] w fun e w'=>e= .returned (.int .i64 (dO T id aQ).1)∧nV W o w t y (dO T id aQ).2 U w':=by
 refine(Kj h.tr h.marks (by omega) h.wJ id aQ hid ht.1 ht.2).mono ?_
 rintro e w' ⟨rfl,o',hs,hT⟩
 exact⟨rfl,o',gF hs (by omega),h.tree hs hT (h.Dc.dO _ _ ht.1)⟩
theorem T2.IG (h:T2 W o w t y T U) (id aQ:Int) (hid:(Lit.int .i64 id).wf=true) (ht:0≤aQ∧aQ≤18446744073709551615):
  Calls Tryz.prog 26 #[ptr y, .int .i64 id, .int .u64 aQ] w fun e w'=>e= .returned (.int .i64 (dO U id aQ).1)∧nV W o w t y T (dO U id aQ).2 w':=by
 refine(KA h.rt h.marks h.vU id aQ ht).mono ?_
 rintro e w' ⟨rfl,o',hs,hT⟩
 exact⟨rfl,o',gF hs (by omega),h.ref hs hT (h.Df.dO _ _ ht.1)⟩
theorem T2.drop (h:T2 W o w t y T U) (id:Int) (hid:(Lit.int .i64 id).wf=true):
  Calls Tryz.prog 29 #[ptr t, .int .i64 id] w fun e w'=>e= .returned (.int .i64 (dH T id).1)∧nV W o w t y (dH T id).2 U w':=by
 refine(CU h.tr h.marks (by omega) h.wJ id hid).mono ?_
 rintro e w' ⟨rfl,o',hs,hT⟩
 exact⟨rfl,o',gF hs (by omega),h.tree hs hT (h.Dc.dH _)⟩
theorem T2.Ql (h:T2 W o w t y T U) (id:Int) (hid:(Lit.int .i64 id).wf=true):
  Calls Tryz.prog 30 #[ptr y, .int .i64 id] w fun e w'=>e= .returned (.int .i64 (dH U id).1)∧nV W o w t y T (dH U id).2 w':=by
 refine(KC h.rt h.marks h.vU id).mono ?_
 rintro e w' ⟨rfl,o',hs,hT⟩
 exact⟨rfl,o',gF hs (by omega),h.ref hs hT (h.Df.dH _)⟩
theorem T2.read (h:T2 W o w t y T U) (id at_ n:Int) (hid:(Lit.int .i64 id).wf=true) (hA:(Lit.int .i64 at_).wf=true) (hN:(Lit.int .i64 n).wf=true):
  Calls Tryz.prog 27 #[ptr t, .int .i64 id, .int .i64 at_, .int .i64 n] w (qF w (mh T id at_ n) (mg T id at_ n)):=by
 obtain⟨g,D,mb,ib,nb,hAt,hg,hD⟩:=h.tr
 exact F4 id at_ n w hAt (fun x hx=>(h.wJ.each id x hx).size) hid hA hN
theorem T2.Qm (h:T2 W o w t y T U) (id at_ n:Int) (hA:(Lit.int .i64 at_).wf=true) (hN:(Lit.int .i64 n).wf=true):
  ∃S,Calls Tryz.prog 28 #[ptr y, .int .i64 id, .int .i64 at_, .int .i64 n] w (CX S w (mh U id at_ n) (mg U id at_ n)):=by
 obtain⟨F,hR,-,-⟩:=h.rt
 exact⟨_,Ep id at_ n w hR h.vU.totF hA hN⟩
theorem II (W:World):Calls Tryz.prog 10 #[] W fun e w'=>∃t o,e= .returned (ptr t)∧Marks W o w'∧eU o 1 w' t jE:=by
 refine(IB W W (fun _=>0) ⟨fun b hb=>absurd rfl hb,Below.refl _ _⟩ 1 (by omega)).mono ?_
 rintro e w' ⟨t,o,rfl,hs,hT,hb⟩
 exact⟨t,o,rfl,(show Marks W (fun _=>0) W from⟨fun b hb=>absurd rfl hb,Below.refl _ _⟩).step (by simp) hs,hT⟩
theorem IJ (hM:Marks W o w) (hT:eU o 1 w t jE):Calls Tryz.prog 11 #[] w fun e w'=>∃y o',e= .returned (ptr y)∧T2 W o' w' t y jE jE:=by
 refine(Hr hM 2).mono ?_
 rintro e w' ⟨y,o',rfl,hs,hR⟩
 exact⟨y,o',rfl,hM.step (by simp) hs,hT.step (by simp) (by simp) hs,hR,fQ.new,fQ.new⟩
theorem Dh {id:Int} (h: -1000000≤id∧id≤1000000):(Lit.int .i64 id).wf=true:=by
 simp[Lit.wf,IntKind.min,IntKind.max,IntKind.signed,IntKind.bits]
 omega
end
def lays (w:World):List Obj→World
 |[]=>w
 |o::r=>lays (w.alloc o) r
theorem vV:∀(os:List Obj) (w:World),Below w.heap.size w (lays w os)
 |[],w=>Below.refl _ _
 |o::r,w=>(wall w o).trans ((vV r (w.alloc o)).mono (by simp))
theorem sJ:∀(os:List Obj) (w:World),(lays w os).heap.size=w.heap.size+os.length
 |[],w=>rfl
 |o::r,w=>by
  show(lays (w.alloc o) r).heap.size=_
  rw[sJ r,World.size_alloc,List.length_cons]
  omega
theorem vW:∀(os:List Obj) (w:World) (i:Nat) (cs:Array Value) (t:TypeId),os[i]? =some (.cells cs t)→(lays w os).heap[w.heap.size+i]? =some (.cells cs t (0,0))
 |[],w,i,cs,t,h=>by simp at h
 |o::r,w,0,cs,t,h=>by
  obtain rfl:o= .cells cs t:=by simpa using h
  have h1:=(vV r (w.alloc (.cells cs t))).block w.heap.size (by simp)
  exact h1.trans (MapKept.heap_alloc w _).1
 |o::r,w,i+1,cs,t,h=>by
  have h1:=vW r (w.alloc o) i cs t (by simpa using h)
  rw[World.size_alloc,show w.heap.size+1+i=w.heap.size+(i+1)by omega]at h1
  exact h1
def kH (o:Mark) (w:World) (v:Value):Prop:=∃(a:Option Addr) (n c:Nat) (ls:List Nm),v= .slice a n c∧n≤c∧n≤1000∧aG (Free o w) w a n (ls.map strOf)
theorem kH.nil (o:Mark) (w:World):kH o w (.slice none 0 0):=⟨none,0,0,[],rfl,Nat.le_refl _,by omega,⟨ak.nil _ _ _,fun s hs=>by cases hs⟩⟩
theorem kH.grow {o:Mark} {w w':World} {v:Value} (h:kH o w v) (hb:Below w.heap.size w w'):kH o w' v:=by
 obtain⟨a,n,c,ls,e,h1,h2,h3⟩:=h
 exact⟨a,n,c,ls,e,h1,h2,(h3.below hb (Nat.le_refl _)).mono fun b hb'=>⟨hb'.1,Nat.lt_of_lt_of_le hb'.2 hb.size⟩⟩
theorem kH.step {o o':Mark} {I:Nat→Prop} {w w':World} {v:Value} (h:kH o w v) (hi:¬I 0) (hs:Step o I w o' w'):kH o' w' v:=by
 obtain⟨a,n,c,ls,e,h1,h2,h3⟩:=h
 exact⟨a,n,c,ls,e,h1,h2,(pG h3 hi hs).mono fun b hb'=>⟨(hs.old b hb'.2).trans hb'.1,Nat.lt_of_lt_of_le hb'.2 hs.keep.size⟩⟩
theorem IK {o:Mark} {w:World} {os:List Obj} {n:Nat} (ls:List Nm) (i:Nat) (hz:∀b,w.heap.size≤b→o b=0) (hi:os[i]? =some (.cells ((ls.map strOf).map Value.string).toArray 9)) (hn:ls.length=n) (h5:n≤1000) (hs:∀l∈ls,l.length≤1000):kH o (lays w os) (.slice (some ⟨w.heap.size+i,0,none⟩) n n):=by
 have h1:=gV (vW os w i _ _ hi) (by simp[maxLen];omega)
 have hlt:i<os.length:=(List.getElem?_eq_some_iff.1 hi).1
 have hl:((ls.map strOf).map Value.string).length=n:=by simpa using hn
 rw[hl]at h1
 refine⟨_,n,n,ls,rfl,Nat.le_refl _,h5,⟨h1.mono fun b (hb:b=w.heap.size+i)=>⟨hz b (by omega),by rw[sJ];omega⟩,fun s hs'=> ?_⟩⟩
 obtain⟨l,hl',rfl⟩:=List.mem_map.1 hs'
 rw[dF]
 have:=hs l hl'
 unfold maxLen;omega
def lC (o:Mark) (w:World) (lb m:Nat):Prop:=Free o w lb∧∀j,j<m→∃v,w.cell? ⟨lb,j,none⟩=some v∧kH o w v
theorem lC.grow {o:Mark} {w w':World} {lb m:Nat} (h:lC o w lb m) (hb:Below w.heap.size w w'):lC o w' lb m:=
 ⟨⟨h.1.1,Nat.lt_of_lt_of_le h.1.2 hb.size⟩,fun j hj=>by
  obtain⟨v,h1,h2⟩:=h.2 j hj
  exact⟨v,(hb.cell (p:=⟨lb,j,none⟩) h.1.2).trans h1,h2.grow hb⟩⟩
theorem lC.step {o o':Mark} {I:Nat→Prop} {w w':World} {lb m:Nat} (h:lC o w lb m) (hi:¬I 0) (hs:Step o I w o' w'):lC o' w' lb m:=
 ⟨⟨(hs.old lb h.1.2).trans h.1.1,Nat.lt_of_lt_of_le h.1.2 hs.keep.size⟩,fun j hj=>by
  obtain⟨v,h1,h2⟩:=h.2 j hj
  exact⟨v,(World.cell?_of_block (w:=w) (w':=w') (a:=⟨lb,j,none⟩) (hs.same hi h.1)).trans h1,h2.step hi hs⟩⟩
theorem ES {o:Mark} {w:World} {os:List Obj} {lb m i:Nat} {cs:Array Value} {t:TypeId} (hz:∀b,w.heap.size≤b→o b=0) (hi:os[i]? =some (.cells cs t)) (hlb:lb=w.heap.size+i) (hm:m≤cs.size) (h:∀(j:Nat) (v:Value),cs[j]? =some v→kH o (lays w os) v):lC o (lays w os) lb m:=by
 have hlt:i<os.length:=(List.getElem?_eq_some_iff.1 hi).1
 have h1:=vW os w i cs t hi
 subst hlb
 refine⟨⟨hz _ (by omega),by rw[sJ];omega⟩,fun j hj=> ?_⟩
 have hj':cs[j]? =some (cs[j]'(by omega)):=Array.getElem?_eq_getElem _
 refine⟨_,?_,h j _ hj'⟩
 simp only[World.cell?,h1]
 exact hj'
structure nI (o:Mark) (w0 w:World) (vs:List Value):Prop where
 z:∀b,w0.heap.size≤b→o b=0
 b:Below w0.heap.size w0 w
 p:∀v∈vs,kH o w v
theorem nI.start {o:Mark} {w:World} (hz:∀b,w.heap.size≤b→o b=0) (vs:List Value) (hv:∀v∈vs,kH o w v):nI o w w vs:=⟨hz,Below.refl _ _,hv⟩
theorem zS {P:Program} {ops:Array Oper} {rest:List Oper} {op:Oper} {a:Act} {w w0:World} {Q:Exit→Act→World→Prop} {o:Mark} {vs:List Value} (hgd:op.guard=none) (t:TypeId) (n:Nat) (parts:Array (Nat×Operand)) (hop:op.op=Op.buildSlice t n parts) (hL:nI o w0 w vs) (ls:List Nm)
  (hrun:(Instr.buildSlice t n (parts.map fun(i,x)=>(i,a.eval x))).run P w= .ok (.slice (some ⟨w.heap.size,0,none⟩) n n) (w.alloc (.cells ((ls.map strOf).map Value.string).toArray 9)))
  (hn:ls.length=n) (h5:n≤1000) (hs:∀l∈ls,l.length≤1000)
  (h:∀b w',nI o w0 w' (.slice (some ⟨b,0,none⟩) n n::vs)→wpList P ops Q rest (a.put op.dst (.slice (some ⟨b,0,none⟩) n n)) w'):wpList P ops Q (op::rest) a w:=by
 refine wpList_plain hgd fun K hK=> ?_
 unfold Oper.wp
 simp only[execOp,hop,hrun,Sem.run_bind,Sem.run_pure,Result.andThen]
 refine hK _ _ (h _ _ ⟨hL.z,hL.b.trans ((wall w _).mono hL.b.size),fun v hv=> ?_⟩)
 rcases List.mem_cons.1 hv with rfl|hv
 ·exact IK (os:=[.cells ((ls.map strOf).map Value.string).toArray 9]) ls 0 (fun b hb=>hL.z b (Nat.le_trans hL.b.size hb)) rfl hn h5 hs
 ·exact(hL.p v hv).grow (wall w _)
def Di (parts:Array (Nat×Operand)):List Nm:=parts.toList.filterMap fun x=>match x.2 with
 | .const (.string b)=>some b.data.toList
 |_=>none
theorem j_ {P:Program} {ops:Array Oper} {rest:List Oper} {op:Oper} {a:Act} {w w0:World} {Q:Exit→Act→World→Prop} {o:Mark} {vs:List Value} (hgd:op.guard=none) (t:TypeId) (n:Nat) (parts:Array (Nat×Operand)) (hop:op.op=Op.buildSlice t n parts) (hn:(Di parts).length=n) (hL:nI o w0 w vs)
  (hrun:(Instr.buildSlice t n (parts.map fun(i,x)=>(i,a.eval x))).run P w= .ok (.slice (some ⟨w.heap.size,0,none⟩) n n) (w.alloc (.cells (((Di parts).map strOf).map Value.string).toArray 9)))
  (h5:n≤1000) (hs:((Di parts).all fun l=>decide (l.length≤1000))=true)
  (h:∀b w',nI o w0 w' (.slice (some ⟨b,0,none⟩) n n::vs)→wpList P ops Q rest (a.put op.dst (.slice (some ⟨b,0,none⟩) n n)) w'):wpList P ops Q (op::rest) a w:=
 zS hgd t n parts hop hL (Di parts) hrun hn h5 (fun l hl=>of_decide_eq_true (List.all_eq_true.1 hs l hl)) h
theorem nI.table {o:Mark} {w w0:World} {vs:List Value} (h:nI o w0 w vs) (cs:Array Value) (t:TypeId) (m:Nat) (hm:m≤cs.size) (hc:∀v∈cs,v= .slice none 0 0∨v∈vs):lC o (w.alloc (.cells cs t)) w.heap.size m:=by
 refine ES (w:=w) (os:=[.cells cs t]) (i:=0) (fun b hb=>h.z b (Nat.le_trans h.b.size hb)) rfl rfl hm fun j v hj=> ?_
 rcases hc v (Array.mem_of_getElem? hj)with rfl|hv
 ·exact kH.nil _ _
 ·exact(h.p v hv).grow (wall w _)
section
variable {W w:World} {o:Mark} {i r:Nat} {T:aH}
end
def lD (o:Mark) (w:World) (vs:List Value) (x:iB):Prop:=
 ∃a c q,vs=[.int .i64 x.id, .slice a x.hash.length c,ptr q]∧x.hash.length≤c∧ak (Free o w) w a x.hash.length (x.hash.map bv)∧jB o 0 w q x.t∧dA x.t
def dD (o:Mark) (w:World):List Value→List iB→Prop
 |vs,[]=>vs=[]
 |vs,x::r=>∃v1 v2,vs=v1++v2∧lD o w v1 x∧dD o w v2 r
structure lT (o:Mark) (i:Nat) (w:World) (s:Nat) (S:uh):Prop where
 at_:∃la lc a c vals,w.heap[s]? =some (.cells #[.int .i64 S.next, .slice la S.last.length lc, .slice a S.l.length c] 160 (0,0))∧o s=i∧s<w.heap.size∧
  S.l.length≤c∧ak (Free o w) w a (S.l.length*3) vals∧dD o w vals S.l∧
  S.last.length≤lc∧ak (Free o w) w la S.last.length (S.last.map bv)
theorem ak.ET {o:Mark} {w w':World} {a:Option Addr} {n:Nat} {vs:List Value} (h:ak (Free o w) w a n vs) (hb:Below w.heap.size w w'):ak (Free o w') w' a n vs:=
 h.move hb.size fun b hb' hbw=>⟨⟨hb'.1,Nat.lt_of_lt_of_le hb'.2 hb.size⟩,hb.block b hbw⟩
theorem lD.step {o o':Mark} {I:Nat→Prop} {w w':World} {vs:List Value} {x:iB} (h:lD o w vs x) (hi:¬I 0) (hs:Step o I w o' w'):lD o' w' vs x:=by
 obtain⟨a,c,q,h1,h2,h3,h4,h5⟩:=h
 exact⟨a,c,q,h1,h2,h3.free hi hs,h4.step hi hi hs,h5⟩
theorem dD.step {o o':Mark} {I:Nat→Prop} {w w':World} (hi:¬I 0) (hs:Step o I w o' w'):∀{vs:List Value} {l:List iB},dD o w vs l→dD o' w' vs l
 |_,[],h=>h
 |_,x::r,⟨v1,v2,h1,h2,h3⟩=>⟨v1,v2,h1,h2.step hi hs,dD.step hi hs h3⟩
theorem lD.grow {o:Mark} {w w':World} {vs:List Value} {x:iB} (h:lD o w vs x) (hb:Below w.heap.size w w'):lD o w' vs x:=by
 obtain⟨a,c,q,h1,h2,h3,h4,h5⟩:=h
 exact⟨a,c,q,h1,h2,h3.ET hb,h4.grow hb,h5⟩
theorem dD.grow {o:Mark} {w w':World} (hb:Below w.heap.size w w'):∀{vs:List Value} {l:List iB},dD o w vs l→dD o w' vs l
 |_,[],h=>h
 |_,x::r,⟨v1,v2,h1,h2,h3⟩=>⟨v1,v2,h1,h2.grow hb,dD.grow hb h3⟩
theorem lD.len {o:Mark} {w:World} {vs:List Value} {x:iB} (h:lD o w vs x):vs.length=3:=by
 obtain⟨a,c,q,h1,_⟩:=h
 rw[h1];rfl
theorem dD.len {o:Mark} {w:World}:∀{vs:List Value} {l:List iB},dD o w vs l→vs.length=l.length*3
 |_,[],h=>by have h1:_=[]:=h;rw[h1];rfl
 |_,x::r,⟨v1,v2,h1,h2,h3⟩=>by
  rw[h1,List.length_append,h2.len,h3.len,List.length_cons]
  omega
theorem dD.append {o:Mark} {w:World}:∀{vs us:List Value} {l m:List iB},dD o w vs l→dD o w us m→dD o w (vs++us) (l++m)
 |_,_,[],_,h,k=>by have h1:_=[]:=h;rw[h1];exact k
 |_,_,x::r,_,⟨v1,v2,h1,h2,h3⟩,k=>⟨v1,v2++_,by rw[h1,List.append_assoc],h2,h3.append k⟩
theorem dD.at_ {o:Mark} {w:World}:∀{vs:List Value} {l:List iB} {k:Nat} {x:iB},dD o w vs l→l[k]? =some x→∃a c q,vs[k*3]? =some (.int .i64 x.id)∧vs[k*3+1]? =some (.slice a x.hash.length c)∧vs[k*3+2]? =some (ptr q)∧x.hash.length≤c∧ak (Free o w) w a x.hash.length (x.hash.map bv)∧jB o 0 w q x.t∧dA x.t
 |_,[],k,x,_,hx=>by simp at hx
 |_,y::r,0,x,⟨v1,v2,h1,h2,h3⟩,hx=>by
  have hyx:y=x:=Option.some.inj hx
  subst hyx
  obtain⟨a,c,q,e1,e2,e3,e4,e5⟩:=h2
  subst e1 h1
  exact⟨a,c,q,rfl,rfl,rfl,e2,e3,e4,e5⟩
 |_,y::r,k+1,x,⟨v1,v2,h1,h2,h3⟩,hx=>by
  obtain⟨a,c,q,e1,e2,e3,e4⟩:=dD.at_ h3 (k:=k) (x:=x) (by simpa using hx)
  have hl:=h2.len
  subst h1
  refine⟨a,c,q,?_,?_,?_,e4⟩
  ·rw[List.getElem?_append_right (by omega),←e1];congr 1;omega
  ·rw[List.getElem?_append_right (by omega),←e2];congr 1;omega
  ·rw[List.getElem?_append_right (by omega),←e3];congr 1;omega
theorem dD.take {o:Mark} {w:World}:∀{vs:List Value} {l:List iB} (k:Nat),dD o w vs l→dD o w (vs.take (k*3)) (l.take k)
 |_,[],k,h=>by have h1:_=[]:=h;rw[h1];simp;exact rfl
 |_,y::r,0,_=>by simp;exact rfl
 |_,y::r,k+1,⟨v1,v2,h1,h2,h3⟩=>by
  subst h1
  have hl:=h2.len
  refine⟨v1,v2.take (k*3),?_,h2,h3.take k⟩
  rw[List.take_append,List.take_of_length_le (by omega)]
  congr 2
  omega
theorem dD.drop {o:Mark} {w:World}:∀{vs:List Value} {l:List iB} (k:Nat),dD o w vs l→dD o w (vs.drop (k*3)) (l.drop k)
 |_,[],k,h=>by have h1:_=[]:=h;rw[h1];simp;exact rfl
 |_,y::r,0,h=>by simpa using h
 |_,y::r,k+1,⟨v1,v2,h1,h2,h3⟩=>by
  subst h1
  have hl:=h2.len
  have h4:=h3.drop k
  rw[List.drop_append,List.drop_eq_nil_of_le (by omega)]
  have e:(k+1)*3-v1.length=k*3:=by omega
  rw[e]
  exact h4
theorem lD.one {o:Mark} {w:World} {vs:List Value} {x:iB} (h:lD o w vs x):∀u∈vs,u.oneCell'=true:=by
 obtain⟨a,c,q,h1,_⟩:=h
 intro u hu
 rw[h1]at hu
 simp only[List.mem_cons,List.not_mem_nil,or_false]at hu
 rcases hu with rfl|rfl|rfl<;>rfl
theorem dD.one {o:Mark} {w:World}:∀{vs:List Value} {l:List iB},dD o w vs l→∀u∈vs,u.oneCell'=true
 |_,[],h=>by have h1:_=[]:=h;rw[h1];intro u hu;cases hu
 |_,x::r,⟨v1,v2,h1,h2,h3⟩=>by
  intro u hu
  rw[h1]at hu
  rcases List.mem_append.1 hu with hu|hu
  ·exact h2.one u hu
  ·exact dD.one h3 u hu
theorem lT.step {o o':Mark} {I:Nat→Prop} {j:Nat} {w w':World} {s:Nat} {S:uh} (h:lT o j w s S) (hi:¬I 0) (hj:¬I j) (hs:Step o I w o' w'):lT o' j w' s S:=by
 obtain⟨la,lc,a,c,vals,h1,h2,h3,h4,h5,h6,h7,h8⟩:=h.at_
 exact⟨la,lc,a,c,vals,(hs.block h3 (by rw[h2];exact hj)).trans h1,(hs.old s h3).trans h2,Nat.lt_of_lt_of_le h3 hs.keep.size,h4,h5.free hi hs,h6.step hi hs,h7,h8.free hi hs⟩
section
variable {W w:World} {o:Mark} {i s:Nat} {S:uh}
theorem lT.grow (h:lT o i w s S) {w':World} (hM:Marks W o w) (hb:Below w.heap.size w w'):lT o i w' s S:=
 h.step (I:=fun _=>False) (fun h=>h) (fun h=>h) (Step.grow hM hb)
theorem lT.lt (h:lT o i w s S):s<w.heap.size:=by
 obtain⟨la,lc,a,c,vals,h1,h2,h3,_⟩:=h.at_
 exact h3
end
section
variable {W w:World} {o:Mark} {i s:Nat} {S:uh}
end
open Go
def Aside (x:Nat) (v:Value) (lo hi:Nat):Prop:=∀b,lo≤b→b<hi→b≠x∧v.ownBlock≠some b
theorem Aside.more {B x lo hi:Nat} {w w':World} {v v':Value} {bs':List UInt8} (h:Aside x v lo hi) (hm:iT B w x v bs' v' w') (hw:hi≤w.heap.size):Aside x v' lo hi∧∀b,lo≤b→b<hi→w'.heap[b]? =w.heap[b]? :=by
 refine⟨fun b h1 h2=>⟨(h b h1 h2).1,fun h9=> ?_⟩,fun b h1 h2=>hm.2.1.block b (by omega) fun h9=> ?_⟩
 ·rcases hm.2.2 b h9 with h3|h3
  ·exact(h b h1 h2).2 h3
  ·omega
 ·rcases h9 with h3|h3
  ·exact(h b h1 h2).1 h3
  ·exact(h b h1 h2).2 h3
section
variable {W w:World} {o:Mark} {i s:Nat} {S:uh}
def Lu (w:World) (x:Nat) (bs:List UInt8) (wr:World):Prop:=∃v,cK w.heap.size wr x v bs∧Below w.heap.size w wr
theorem Lu.more {w:World} {x:Nat} {bs bs':List UInt8} {wr w':World} {v:Value} {e:Ending} (h:cK w.heap.size wr x v bs) (hb:Below w.heap.size w wr) (ht:lI w.heap.size wr x v bs' e w'):e= .returned (.tuple #[])∧Lu w x bs' w':=by
 obtain⟨rfl,v',hm⟩:=ht
 exact⟨rfl,v',hm.1,hb.trans (hm.low h)⟩
end
theorem Dj {W w:World} {o:Mark} {j r:Nat} {T:aH} (h:jB o j w r T) (hT:dA T):Calls Tryz.prog 32 #[ptr r] w (gQ w (gT T)):=by
 obtain⟨F,hF,-,-⟩:=h
 exact Eh w hF hT
section
variable {W w:World} {o:Mark} {i s:Nat} {S:uh}
end
end Go.Proofs.YtohpcppeajijnaaGreat
