/- A law's own state: replies in variables; literals of bytes. permafrostlaw14.known. permafrostbook.Within. permafrostkeep.Name. permafrostkeep.Cut. -/
import Derived.Test.YtmabllemjkcobaaGreatDoorM39
import Derived.Lib.SlBytesConst
import Derived.Test.YtmabllemjkcobaaGreatDoorM01
import Derived.Test.YtmabllemjkcobaaGreatDoorM04
namespace Go.Proofs.YtmabllemjkcobaaGreatDoor
open Go.ChangeShapes Go.WideShapes Go.ChangeAt Go.RowKit
set_option linter.unusedVariables false
set_option linter.unusedSimpArgs false
abbrev YO (kind:Int) (path aA:ByteArray) (fd at_ n au snap:Int) (da:Option Addr) (dl dc:Nat):Value:= .agg #[.int .i64 kind, .string path, .string aA, .int .i64 fd, .int .i64 at_, .int .i64 n, .int .u64 au, .int .i64 snap, .slice da dl dc]
theorem Uu {W w:World} {o:Mark} {i p:Nat} {c:Int} {M:eF} {S:Nat→Prop} (h:uy W o i w p c M) (hi:0<i) (hc:c≤1000000000) (x:kQ) (hx:jL x) (da:Option Addr) (dc:Nat) (hda:aj S w da x.data.length (x.data.map bv)) (m:Int) (hm:W.cell? ⟨0,0,none⟩=some (.int .i64 m)) (v:Value) (hv:v= .agg (opC x da dc)):
  Calls Tryz.prog 12 #[ptr p,v] w (DoW W o i w p c M x):=by rw[hv];exact WV h hi hc x hx da dc hda m hm
def DoE (W:World) (o:Mark) (i:Nat) (w:World) (p:Nat) (c:Int) (r:rO) (M':eF) (e:Ending) (w':World):Prop:=
 ∃o',vk o' r e w'∧Step o (Five i) w o' w'∧uy W o' i w' p (c+1) M'
theorem yD {W w:World} {o:Mark} {i p:Nat} {c:Int} {M M':eF} {r:rO} {S:Nat→Prop} (h:uy W o i w p c M) (hi:0<i) (hc:c≤1000000000) (x:kQ) (hx:jL x) (da:Option Addr) (dc:Nat) (hda:aj S w da x.data.length (x.data.map bv)) (m:Int) (hm:W.cell? ⟨0,0,none⟩=some (.int .i64 m)) (v:Value) (hv:v= .agg (opC x da dc)) (he:bM M x=(r,M')):
  Calls Tryz.prog 12 #[ptr p,v] w (DoE W o i w p c r M'):=by
 refine(Uu h hi hc x hx da dc hda m hm v hv).mono ?_
 rintro e w' ⟨o',h1,h2,h3⟩
 rw[he]at h1 h3
 exact⟨o',h1,h2,h3⟩
theorem BD {W w:World} {o:Mark} {i p:Nat} {c:Int} {M M':eF} {r:rO} (h:uy W o i w p c M) (hi:0<i) (hc:c≤1000000000) (x:kQ) (hx:jL x) (m:Int) (hm:W.cell? ⟨0,0,none⟩=some (.int .i64 m)) (v:Value) (hv:v= .agg (opC x none 0)) (hd:x.data=[]) (he:bM M x=(r,M')):
  Calls Tryz.prog 12 #[ptr p,v] w (DoE W o i w p c r M'):=yD (S:=fun _=>True) h hi hc x hx none 0 (by rw[hd];exact aj.nil _ _ _) m hm v hv he
structure ug (o:Mark) (w:World) (g:Nat) (r:rO) (da la:Option Addr) (dc lc:Nat):Prop where
 own:o g=0
 low:g<w.heap.size
 at_:w.heap[g]? =some (.cells (b_ r da la dc lc) 36 (0,0))
 dcap:r.data.length≤dc
 lcap:r.names.length≤lc
 data:aj (Free o w) w da r.data.length (r.data.map bv)
 names:aO (Free o w) w la r.names.length (r.names.map strOf)
abbrev reZ:Array Value:= #[.int .i64 0, .int .i64 0, .slice none 0 0, .slice none 0 0, .int .i64 0, .int .i64 0, .int .i64 0, .int .i64 0, .int .u64 0, .bool false]
section
variable {W w w' w4 w5:World} {o o':Mark} {g:Nat} {r:rO} {da la:Option Addr} {dc lc:Nat}
theorem ug.step {I:Nat→Prop} (h:ug o w g r da la dc lc) (h0:¬I 0) (hs:Step o I w o' w'):ug o' w' g r da la dc lc:=
 ⟨(hs.old g h.low).trans h.own,Nat.lt_of_lt_of_le h.low hs.keep.size,(hs.block h.low (by rw[h.own];exact h0)).trans h.at_,h.dcap,h.lcap,h.data.free h0 hs,⟨h.names.row.free h0 hs,h.names.short⟩⟩
theorem ug.five {i:Nat} (h:ug o w g r da la dc lc) (hi:0<i) (hs:Step o (Five i) w o' w'):ug o' w' g r da la dc lc:=h.step (fun e=>by have:=e.1;omega) hs
theorem ug.grow (h:ug o w g r da la dc lc) (hM:Marks W o w) (hb:Below w.heap.size w w'):ug o w' g r da la dc lc:=h.step (I:=fun _=>False) (fun e=>e) (Step.grow hM hb)
theorem wY (hM:Marks W o w4) (h1:r.data.length≤dc) (h2:r.names.length≤lc) (h3:aj (Free o w4) w4 da r.data.length (r.data.map bv)) (h4:aO (Free o w4) w4 la r.names.length (r.names.map strOf))
  (hs:jC (w4.alloc (.cells reZ 36)) w4.heap.size (b_ r da la dc lc) 36 w5):ug o w5 w4.heap.size r da la dc lc∧Below w4.heap.size w4 w5:=by
 have hb:=hs.below (wall w4 (.cells reZ 36)) (Nat.le_refl _)
 have hlt:w4.heap.size<w5.heap.size:=(Array.getElem?_eq_some_iff.1 hs.1).1
 have hst:Step o (fun _=>False) w4 o w5:=Step.grow hM hb
 exact⟨⟨Decidable.byContradiction fun h0=>by have:=(hM.new _ h0).2;omega,hlt,hs.1,h1,h2,h3.free (fun e=>e) hst,⟨h4.row.free (fun e=>e) hst,h4.short⟩⟩,hb⟩
theorem ug.er (h:ug o w g r da la dc lc):w.cell? ⟨g,0,none⟩=some (.int .i64 r.er):=by simp[World.cell?,h.at_,b_]
theorem ug.n (h:ug o w g r da la dc lc):w.cell? ⟨g,1,none⟩=some (.int .i64 r.n):=by simp[World.cell?,h.at_,b_]
theorem NV (vs:List Value) (t:TypeId) (m:Nat×Nat) (hm:vs.length≤maxLen):aj (fun x=>x=w.heap.size) (w.alloc (.cells vs.toArray t m)) (some ⟨w.heap.size,0,none⟩) vs.length vs:=by
 refine⟨rfl,hm,fun _=>⟨_,0,rfl,rfl,by simp,fun i hi=> ?_⟩⟩
 have hh:(w.alloc (.cells vs.toArray t m)).heap[w.heap.size]? =some (.cells vs.toArray t m):=(MapKept.heap_alloc w _).1
 simp only[World.cell?,hh]
 simp
end
structure Ku (q:Nat) (o:Mark) (w:World) (g:Nat) (x:kQ) (da:Option Addr) (dc:Nat):Prop where
 own:o g=q
 low:g<w.heap.size
 at_:w.heap[g]? =some (.cells (opC x da dc) 28 (0,0))
section
variable {W w w' w4 w5:World} {o o':Mark} {q g i p:Nat} {c:Int} {x:kQ} {M:eF} {da:Option Addr} {dc:Nat}
theorem Ku.step {I:Nat→Prop} (h:Ku q o w g x da dc) (h0:¬I q) (hs:Step o I w o' w'):Ku q o' w' g x da dc:=
 ⟨(hs.old g h.low).trans h.own,Nat.lt_of_lt_of_le h.low hs.keep.size,(hs.block h.low (by rw[h.own];exact h0)).trans h.at_⟩
theorem Ku.five (h:Ku q o w g x da dc) (hq:q<i∨i+4<q) (hs:Step o (Five i) w o' w'):Ku q o' w' g x da dc:=h.step (fun e=>by have:=e.1;have:=e.2;omega) hs
theorem Ku.grow (h:Ku q o w g x da dc) (hM:Marks W o w) (hb:Below w.heap.size w w'):Ku q o w' g x da dc:=h.step (I:=fun _=>False) (fun e=>e) (Step.grow hM hb)
theorem Ku.cells (h:Ku q o w g x da dc):w.cell? ⟨g,0,none⟩=some (.int .i64 x.kind)∧w.cell? ⟨g,1,none⟩=some (.string (strOf x.path))∧w.cell? ⟨g,2,none⟩=some (.string (strOf x.aA))∧w.cell? ⟨g,3,none⟩=some (.int .i64 x.fd)∧w.cell? ⟨g,4,none⟩=some (.int .i64 x.at_)∧w.cell? ⟨g,5,none⟩=some (.int .i64 x.n)∧w.cell? ⟨g,6,none⟩=some (.int .u64 x.au)∧w.cell? ⟨g,7,none⟩=some (.int .i64 x.snap)∧w.cell? ⟨g,8,none⟩=some (.slice da x.data.length dc)∧w.frozen? ⟨g,6,none⟩=false:=by
 have:=h.at_
 unfold opC at this
 refine⟨?_,?_,?_,?_,?_,?_,?_,?_,?_,?_⟩<;>simp[World.cell?,World.frozen?,this]
abbrev opZ:Array Value:= #[.int .i64 0, .string ⟨#[]⟩, .string ⟨#[]⟩, .int .i64 0, .int .i64 0, .int .i64 0, .int .u64 0, .int .i64 0, .slice none 0 0]
theorem Uv (hM:Marks W o w4) (q:Nat) (hs:jC (w4.alloc (.cells opZ 28)) w4.heap.size (opC x da dc) 28 w5):∃o',Step o (fun m=>m=q) w4 o' w5∧Ku q o' w5 w4.heap.size x da dc:=by
 have hb:=hs.below (wall w4 (.cells opZ 28)) (Nat.le_refl _)
 have hlt:w4.heap.size<w5.heap.size:=(Array.getElem?_eq_some_iff.1 hs.1).1
 obtain⟨o',hs',h1,h2⟩:=fZ hM q (fun b=>b=w4.heap.size) (w':=w5) (fun b hb=>by subst hb;exact⟨Nat.le_refl _,hlt⟩) hb
 exact⟨o',hs',h1 _ rfl,hlt,hs.1⟩
theorem uy.one (h:uy W o i w p c M) (hq:q≠0∧(q<i∨i+2<q)) (hs:Step o (fun m=>m=q) w o' w'):uy W o' i w' p c M:=
 ⟨h.st.step (fun e=>by omega) (fun e=>by omega) (fun e=>by omega) (fun e=>by omega) hs,h.marks.step (fun e=>by omega) hs,h.ok⟩
end
def NW:kQ:=⟨1,[47,97],[],0,0,0,0,0,[]⟩
def NY:kQ:=⟨5,[],[],0,0,0,0,0,[120,121,122]⟩
def NZ:kQ:=⟨6,[],[],0,0,0,9,0,[]⟩
def N7:kQ:=⟨8,[47,97],[],0,0,0,0,0,[]⟩
def Ii:rO:=(bM xW NW).1
def Ij:eF:=(bM xW NW).2
def N8:rO:=(bM Ij NY).1
def Ik:eF:=(bM Ij NY).2
def N9:rO:=(bM Ik NZ).1
def Il:eF:=(bM Ik NZ).2
def N_:rO:=(bM Il N7).1
def WW:eF:=(bM Il N7).2
theorem WX:bM xW NW=(Ii,Ij):=rfl
theorem WY:bM Ij NY=(N8,Ik):=rfl
theorem WZ:bM Ik NZ=(N9,Il):=rfl
theorem W9:bM Il N7=(N_,WW):=rfl
theorem W_:Ii.er=0:=by kernel_rfl
theorem Xa:Ii.n=0:=by kernel_rfl
theorem Xb:N8.n=3:=by kernel_rfl
theorem Xc:N9.er=0:=by kernel_rfl
theorem Xd:N_.er=28:=by kernel_rfl
theorem BF (x:kQ) (h:x=NW∨x=NY∨x=NZ∨x=N7):jL x:=by
 rcases h with rfl|rfl|rfl|rfl<;>exact F9 (by decide) (by decide) (by decide) (by decide) (by decide) (by decide) (by decide) (by decide) (by decide)
set_option maxRecDepth 100000 in
set_option maxHeartbeats 16000000 in
theorem vY (w:World) (m:Int) (hm:w.cell? ⟨0,0,none⟩=some (.int .i64 m)):Calls Tryz.prog 20 #[] w fun e w'=>e= .returned (.bool true)∧Below w.heap.size w w':=by
 have kc:=fun(w:World) (C:Array Value) (n c:Nat)=>Lib.run_convert_bytes_const (P:=Tryz.prog) w 26 5 C n c Tryz.underlying26 Tryz.underlying5
 have HM:=Lib.hid hm
 clear hm
 go_enter Tryz.func20,Tryz.ntmps20
 go_wp2_with fail
 (with_reducible refine(NT (i:=1) (NU w) (by omega)).mono ?_)
 rintro e w1 ⟨ps,o1,rfl,hs1,hS1⟩
 have mU:=Lib.hid hS1
 clear hs1 hS1
 have qA:=Lib.hid (BD mU.out (by omega) (by omega) NW (BF _ (by simp)) m HM.out (YO 1 ⟨#[47,97]⟩ ⟨#[]⟩ 0 0 0 0 0 none 0 0) rfl rfl WX)
 go_wp2_with fail
 (with_reducible refine qA.out.mono ?_)
 rintro e w2 ⟨o2,⟨y2,rfl,da2,la2,Oa,lc2,rfl,p1,p2,p3,p4⟩,hs2,hS2⟩
 have HS2:=Lib.hid hS2
 have HR2:=Lib.hid (And.intro p1 (And.intro p2 (And.intro p3 p4)))
 clear hs2 hS2 p1 p2 p3 p4 qA mU
 go_wp2_with (refine ak (by rfl) 36 _ _ (by rfl) _ (b_ Ii da2 la2 Oa lc2) (by rfl) (by rfl) _ (MapKept.heap_alloc _ _).1 bA rfl (bD _ _ _ _ _) ?_;intro w3 hs3;have HW3:=Lib.hid hs3;clear hs3;obtain⟨hv3,hb3⟩:=wY HS2.out.marks HR2.out.1 HR2.out.2.1 HR2.out.2.2.1 HR2.out.2.2.2 HW3.out;have YP:=Lib.hid hv3;have iH:=Lib.hid (HS2.out.grow hb3);clear HS2;clear hv3 hb3 HW3 HR2)
 have hb5:Below w3.heap.size w3 (w3.alloc (.cells #[.int .u8 120, .int .u8 121, .int .u8 122] 5 (3,4))):=wall w3 _
 have Sn:=Lib.hid (YP.out.grow iH.out.marks hb5)
 clear YP
 have Uw:=Lib.hid (iH.out.grow hb5)
 clear iH
 clear hb5
 have HC8:=Lib.hid (yD Uw.out (by omega) (by omega) NY (BF _ (by simp)) (some ⟨w3.heap.size,0,none⟩) 3 (NV (([120,121,122]:List UInt8).map bv) _ (3,4) (by decide)) m HM.out (YO 5 ⟨#[]⟩ ⟨#[]⟩ 0 0 0 0 0 (some ⟨w3.heap.size,0,none⟩) 3 3) rfl WY)
 go_wp2_with fail
 (with_reducible refine HC8.out.mono ?_)
 rintro e w8 ⟨o8,⟨y8,rfl,da8,la8,dc8,lc8,rfl,p1,p2,p3,p4⟩,uQ,TI⟩
 have Mv:=Lib.hid TI
 have JX:=Lib.hid (And.intro p1 (And.intro p2 (And.intro p3 p4)))
 have Vw:=Lib.hid (Sn.out.five (by omega) uQ)
 clear Sn
 clear uQ TI p1 p2 p3 p4 HC8 Uw
 go_wp2_with (refine ak (by rfl) 36 _ _ (by rfl) _ (b_ N8 da8 la8 dc8 lc8) (by rfl) (by rfl) _ (MapKept.heap_alloc _ _).1 bA rfl (bD _ _ _ _ _) ?_;intro Cb j6;have Xe:=Lib.hid j6;clear j6;obtain⟨Xf,qR⟩:=wY Mv.out.marks JX.out.1 JX.out.2.1 JX.out.2.2.1 JX.out.2.2.2 Xe.out;have Xg:=Lib.hid Xf;have Xh:=Lib.hid (Vw.out.grow Mv.out.marks qR);clear Vw;have Xi:=Lib.hid (Mv.out.grow qR);clear Mv;clear Xf qR Xe JX)
 have Xj:=Lib.hid (BD Xi.out (by omega) (by omega) NZ (BF _ (by simp)) m HM.out (YO 6 ⟨#[]⟩ ⟨#[]⟩ 0 0 0 9 0 none 0 0) rfl rfl WZ)
 go_wp2_with fail
 (with_reducible refine Xj.out.mono ?_)
 rintro e w13 ⟨o13,⟨y13,rfl,da13,la13,dc13,lc13,rfl,p1,p2,p3,p4⟩,Ux,Xk⟩
 have Ob:=Lib.hid Xk
 have Oc:=Lib.hid (And.intro p1 (And.intro p2 (And.intro p3 p4)))
 have Xl:=Lib.hid (Xh.out.five (by omega) Ux)
 clear Xh
 have Xm:=Lib.hid (Xg.out.five (by omega) Ux)
 clear Xg
 clear Ux Xk p1 p2 p3 p4 Xj Xi
 go_wp2_with (refine ak (by rfl) 36 _ _ (by rfl) _ (b_ N9 da13 la13 dc13 lc13) (by rfl) (by rfl) _ (MapKept.heap_alloc _ _).1 bA rfl (bD _ _ _ _ _) ?_;intro w16 Xn;have Xo:=Lib.hid Xn;clear Xn;obtain⟨Xp,zD⟩:=wY Ob.out.marks Oc.out.1 Oc.out.2.1 Oc.out.2.2.1 Oc.out.2.2.2 Xo.out;have Xq:=Lib.hid Xp;have Xr:=Lib.hid (Xl.out.grow Ob.out.marks zD);clear Xl;have Xt:=Lib.hid (Xm.out.grow Ob.out.marks zD);clear Xm;have Xu:=Lib.hid (Ob.out.grow zD);clear Ob;clear Xp zD Xo Oc)
 have Xv:=Lib.hid (BD Xu.out (by omega) (by omega) N7 (BF _ (by simp)) m HM.out (YO 8 ⟨#[47,97]⟩ ⟨#[]⟩ 0 0 0 0 0 none 0 0) rfl rfl W9)
 go_wp2_with fail
 (with_reducible refine Xv.out.mono ?_)
 rintro e w20 ⟨o20,⟨y20,rfl,da20,la20,dc20,lc20,rfl,p1,p2,p3,p4⟩,Q5,Xw⟩
 have Kv:=Lib.hid Xw
 have Od:=Lib.hid (And.intro p1 (And.intro p2 (And.intro p3 p4)))
 have Xx:=Lib.hid (Xr.out.five (by omega) Q5)
 clear Xr
 have Xy:=Lib.hid (Xt.out.five (by omega) Q5)
 clear Xt
 have Xz:=Lib.hid (Xq.out.five (by omega) Q5)
 clear Xq
 clear Q5 Xw p1 p2 p3 p4 Xv Xu
 go_wp2_with (refine ak (by rfl) 36 _ _ (by rfl) _ (b_ N_ da20 la20 dc20 lc20) (by rfl) (by rfl) _ (MapKept.heap_alloc _ _).1 bA rfl (bD _ _ _ _ _) ?_;intro w24 XA;have XB:=Lib.hid XA;clear XA;obtain⟨hv24,Oe⟩:=wY Kv.out.marks Od.out.1 Od.out.2.1 Od.out.2.2.1 Od.out.2.2.2 XB.out;have HV24:=Lib.hid hv24;have XC:=Lib.hid (Xx.out.grow Kv.out.marks Oe);clear Xx;have HV26:=Lib.hid (Xy.out.grow Kv.out.marks Oe);clear Xy;have HV27:=Lib.hid (Xz.out.grow Kv.out.marks Oe);clear Xz;have HS28:=Lib.hid (Kv.out.grow Oe);clear Kv;clear hv24 Oe XB Od;have c1:=XC.out.er;rw[W_]at c1;have c2:=XC.out.n;rw[Xa]at c2;have c3:=HV26.out.n;rw[Xb]at c3;have c4:=HV27.out.er;rw[Xc]at c4;have c5:=HV24.out.er;rw[Xd]at c5)
 go_ret
 exact⟨rfl,HS28.out.below⟩
def aH (n lo hi:Int):Int:=lo+n%(hi-lo+1)
theorem m_ (n lo hi:Int) (h:lo≤hi):lo≤aH n lo hi∧aH n lo hi≤hi:=by
 unfold aH
 have h1:=Int.emod_nonneg n (show hi-lo+1≠0 by omega)
 have h2:=Int.emod_lt_of_pos n (show 0<hi-lo+1 by omega)
 omega
theorem Kw {n:Int} (h:(Lit.int .i64 n).wf=true): -9223372036854775808≤n∧n≤9223372036854775807:=by
 simp[Lit.wf,IntKind.min,IntKind.max,IntKind.signed,IntKind.bits]at h
 omega
theorem bO (n lo hi:Int) (w:World) (hn:(Lit.int .i64 n).wf=true) (h1:0≤lo) (h2:lo≤hi) (h3:hi≤1099511627776):
  Calls Tryz.prog 27 #[.int .i64 n, .int .i64 lo, .int .i64 hi] w fun e w'=>e= .returned (.int .i64 (aH n lo hi))∧w=w':=by
 obtain⟨hw1,hw2⟩:=Kw hn
 clear hn
 have t1:=Int.tmod_lt_of_pos n (show 0<hi-lo+1 by omega)
 have t2:=Int.lt_tmod_of_pos n (show 0<hi-lo+1 by omega)
 have t3:=Int.emod_nonneg n (show hi-lo+1≠0 by omega)
 have t4:=Int.emod_lt_of_pos n (show 0<hi-lo+1 by omega)
 by_cases hn:0≤n
 ·have hx:¬n%(hi-lo+1)<0:=by omega
  go_enter Tryz.func27,Tryz.ntmps27
  go_wp2
  go_ret
  exact⟨eO (by unfold aH;rfl),rfl⟩
 ·have hE:n%(hi-lo+1)=if n.tmod (hi-lo+1)<0 then n.tmod (hi-lo+1)+(hi-lo+1)else n.tmod (hi-lo+1):=by
   have h5:=Int.emod_add_mul_ediv n (hi-lo+1)
   have h6:=Int.tmod_add_mul_tdiv n (hi-lo+1)
   have h7:(n.tmod (hi-lo+1))%(hi-lo+1)=n%(hi-lo+1):=by
    have h8:n=n.tmod (hi-lo+1)+(hi-lo+1)*n.tdiv (hi-lo+1):=by omega
    rw[←Int.add_mul_emod_self_left (n.tmod (hi-lo+1)) (hi-lo+1) (n.tdiv (hi-lo+1)),←h8]
   split
   ·rw[←h7,←Int.add_emod_right,Int.emod_eq_of_lt (by omega) (by omega)]
   ·rw[←h7,Int.emod_eq_of_lt (by omega) (by omega)]
  have HE:=Lib.hid hE
  clear hE
  by_cases ht:n.tmod (hi-lo+1)<0
  ·go_enter Tryz.func27,Tryz.ntmps27
   go_wp2
   go_ret
   exact⟨eO (by unfold aH;rw[HE.out,if_pos ht];omega),rfl⟩
  ·go_enter Tryz.func27,Tryz.ntmps27
   go_wp2
   go_ret
   exact⟨eO (by unfold aH;rw[HE.out,if_neg (by omega)]),rfl⟩
def fG:List (List UInt8):=[[47,97],[47,98],[47,99],[47,97,47,97],[47,97,47,98],[47,98,47,97],[47,98,47,98,47,97],[47],[47,99,47,97],[47,98,47,98],[47,65],[97],[47,97,47,47,98],[47,97,47]]
def Q6 (w:World) (e:Ending) (w':World):Prop:=∃s,s∈fG∧e= .returned (.string (strOf s))∧Below w.heap.size w w'
set_option maxRecDepth 100000 in
set_option maxHeartbeats 8000000 in
theorem qU (z:Int) (hz:(Lit.int .i64 z).wf=true) (w:World):Calls Tryz.prog 34 #[.int .i64 z] w (Q6 w):=by
 obtain⟨v,hv⟩:∃v,v=aH z 0 1048576:=⟨_,rfl⟩
 have hb:=m_ z 0 1048576 (by omega)
 have HW:=Lib.hid (bO z 0 1048576 (w.alloc (.cells #[.string ⟨#[47,97]⟩, .string ⟨#[47,98]⟩, .string ⟨#[47,99]⟩, .string ⟨#[47,97,47,97]⟩, .string ⟨#[47,97,47,98]⟩, .string ⟨#[47,98,47,97]⟩, .string ⟨#[47,98,47,98,47,97]⟩, .string ⟨#[47]⟩, .string ⟨#[47,99,47,97]⟩, .string ⟨#[47,98,47,98]⟩, .string ⟨#[47,65]⟩, .string ⟨#[97]⟩, .string ⟨#[47,97,47,47,98]⟩, .string ⟨#[47,97,47]⟩] 9)) hz (by omega) (by omega) (by omega))
 rw[←hv]at hb HW
 clear hv
 obtain⟨k,rfl⟩:∃k:Nat,v=k:=⟨v.toNat,by omega⟩
 obtain⟨q,hq⟩:∃q,q=k%14:=⟨_,rfl⟩
 have h2:(k:Int)%14=(q:Int):=by rw[hq];omega
 have h1:(k:Int).tmod 14=(q:Int):=by rw[Int.tmod_eq_emod_of_nonneg (by omega)];exact h2
 have hlt:q<14:=by rw[hq];omega
 clear hq
 rcases (show q=0∨q=1∨q=2∨q=3∨q=4∨q=5∨q=6∨q=7∨q=8∨q=9∨q=10∨q=11∨q=12∨q=13 by omega)with rfl|rfl|rfl|rfl|rfl|rfl|rfl|rfl|rfl|rfl|rfl|rfl|rfl|rfl
 ·go_enter Tryz.func34,Tryz.ntmps34
  go_wp2_with fail
  (with_reducible refine HW.out.mono ?_)
  rintro e w1 ⟨rfl,rfl⟩
  clear HW
  go_wp2_with fail
  go_ret
  exact⟨[47,97],by simp[fG],rfl,(Below.refl _ _).alloc (Nat.le_refl _) _⟩
 ·go_enter Tryz.func34,Tryz.ntmps34
  go_wp2_with fail
  (with_reducible refine HW.out.mono ?_)
  rintro e w1 ⟨rfl,rfl⟩
  clear HW
  go_wp2_with fail
  go_ret
  exact⟨[47,98],by simp[fG],rfl,(Below.refl _ _).alloc (Nat.le_refl _) _⟩
 ·go_enter Tryz.func34,Tryz.ntmps34
  go_wp2_with fail
  (with_reducible refine HW.out.mono ?_)
  rintro e w1 ⟨rfl,rfl⟩
  clear HW
  go_wp2_with fail
  go_ret
  exact⟨[47,99],by simp[fG],rfl,(Below.refl _ _).alloc (Nat.le_refl _) _⟩
 ·go_enter Tryz.func34,Tryz.ntmps34
  go_wp2_with fail
  (with_reducible refine HW.out.mono ?_)
  rintro e w1 ⟨rfl,rfl⟩
  clear HW
  go_wp2_with fail
  go_ret
  exact⟨[47,97,47,97],by simp[fG],rfl,(Below.refl _ _).alloc (Nat.le_refl _) _⟩
 ·go_enter Tryz.func34,Tryz.ntmps34
  go_wp2_with fail
  (with_reducible refine HW.out.mono ?_)
  rintro e w1 ⟨rfl,rfl⟩
  clear HW
  go_wp2_with fail
  go_ret
  exact⟨[47,97,47,98],by simp[fG],rfl,(Below.refl _ _).alloc (Nat.le_refl _) _⟩
 ·go_enter Tryz.func34,Tryz.ntmps34
  go_wp2_with fail
  (with_reducible refine HW.out.mono ?_)
  rintro e w1 ⟨rfl,rfl⟩
  clear HW
  go_wp2_with fail
  go_ret
  exact⟨[47,98,47,97],by simp[fG],rfl,(Below.refl _ _).alloc (Nat.le_refl _) _⟩
 ·go_enter Tryz.func34,Tryz.ntmps34
  go_wp2_with fail
  (with_reducible refine HW.out.mono ?_)
  rintro e w1 ⟨rfl,rfl⟩
  clear HW
  go_wp2_with fail
  go_ret
  exact⟨[47,98,47,98,47,97],by simp[fG],rfl,(Below.refl _ _).alloc (Nat.le_refl _) _⟩
 ·go_enter Tryz.func34,Tryz.ntmps34
  go_wp2_with fail
  (with_reducible refine HW.out.mono ?_)
  rintro e w1 ⟨rfl,rfl⟩
  clear HW
  go_wp2_with fail
  go_ret
  exact⟨[47],by simp[fG],rfl,(Below.refl _ _).alloc (Nat.le_refl _) _⟩
 ·go_enter Tryz.func34,Tryz.ntmps34
  go_wp2_with fail
  (with_reducible refine HW.out.mono ?_)
  rintro e w1 ⟨rfl,rfl⟩
  clear HW
  go_wp2_with fail
  go_ret
  exact⟨[47,99,47,97],by simp[fG],rfl,(Below.refl _ _).alloc (Nat.le_refl _) _⟩
 ·go_enter Tryz.func34,Tryz.ntmps34
  go_wp2_with fail
  (with_reducible refine HW.out.mono ?_)
  rintro e w1 ⟨rfl,rfl⟩
  clear HW
  go_wp2_with fail
  go_ret
  exact⟨[47,98,47,98],by simp[fG],rfl,(Below.refl _ _).alloc (Nat.le_refl _) _⟩
 ·go_enter Tryz.func34,Tryz.ntmps34
  go_wp2_with fail
  (with_reducible refine HW.out.mono ?_)
  rintro e w1 ⟨rfl,rfl⟩
  clear HW
  go_wp2_with fail
  go_ret
  exact⟨[47,65],by simp[fG],rfl,(Below.refl _ _).alloc (Nat.le_refl _) _⟩
 ·go_enter Tryz.func34,Tryz.ntmps34
  go_wp2_with fail
  (with_reducible refine HW.out.mono ?_)
  rintro e w1 ⟨rfl,rfl⟩
  clear HW
  go_wp2_with fail
  go_ret
  exact⟨[97],by simp[fG],rfl,(Below.refl _ _).alloc (Nat.le_refl _) _⟩
 ·go_enter Tryz.func34,Tryz.ntmps34
  go_wp2_with fail
  (with_reducible refine HW.out.mono ?_)
  rintro e w1 ⟨rfl,rfl⟩
  clear HW
  go_wp2_with fail
  go_ret
  exact⟨[47,97,47,47,98],by simp[fG],rfl,(Below.refl _ _).alloc (Nat.le_refl _) _⟩
 ·go_enter Tryz.func34,Tryz.ntmps34
  go_wp2_with fail
  (with_reducible refine HW.out.mono ?_)
  rintro e w1 ⟨rfl,rfl⟩
  clear HW
  go_wp2_with fail
  go_ret
  exact⟨[47,97,47],by simp[fG],rfl,(Below.refl _ _).alloc (Nat.le_refl _) _⟩
theorem vZ {s:List UInt8} (h:s∈fG):s.length≤6:=by
 have:∀s∈fG,s.length≤6:=by decide
 exact this s h
theorem Q7 (a:Option Addr) (len cap n:Nat) (hl:len≤cap) (hn:n≤1048576) (hm:len≤maxLen) (w:World):
  Calls Tryz.prog 28 #[.slice a len cap, .int .i64 n] w fun e w'=>e= .returned (.slice a (min len n) cap)∧w=w':=by
 unfold maxLen at hm
 by_cases h:n<len
 ·have e1:n≤cap:=by omega
  go_enter Tryz.func28,Tryz.ntmps28
  go_wp2
  go_ret
  rw[show min len n=n by omega]
  exact⟨rfl,rfl⟩
 ·go_enter Tryz.func28,Tryz.ntmps28
  go_wp2
  go_ret
  rw[show min len n=len by omega]
  exact⟨rfl,rfl⟩
end Go.Proofs.YtmabllemjkcobaaGreatDoor
