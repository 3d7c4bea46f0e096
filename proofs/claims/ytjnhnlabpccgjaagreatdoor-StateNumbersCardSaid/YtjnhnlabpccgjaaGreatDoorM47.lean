/- A -/
import Derived.Test.YtjnhnlabpccgjaaGreatDoorM30
import Derived.Lib.SlBytesConst
import Derived.Test.YtjnhnlabpccgjaaGreatDoorM31
import Derived.BigQuiet
import Derived.Deep.QuietTactic
import Derived.Test.YtjnhnlabpccgjaaGreatDoorM22
import Derived.Test.YtjnhnlabpccgjaaGreatDoorM27
import Derived.Test.YtjnhnlabpccgjaaGreatDoorM25
import Derived.Lib.SliceRun
import Derived.Test.YtjnhnlabpccgjaaGreatDoorM21
import Derived.Test.YtjnhnlabpccgjaaGreatDoorM18
import Derived.Test.YtjnhnlabpccgjaaGreatDoorM16
import Derived.Test.YtjnhnlabpccgjaaGreatDoorM24
import Derived.Test.YtjnhnlabpccgjaaGreatDoorM28
set_option maxRecDepth 100000
set_option maxHeartbeats 64000000
set_option linter.all false
namespace Go.Proofs.YtjnhnlabpccgjaaGreatDoor
open Go.ChangeShapes Go.WideShapes Go.ChangeAt Go.RowKit
abbrev opA(kind:Int)(path dD:ByteArray)(fd at_ n aA snap:Int)(da:Option Addr)(dl dc:Nat):Value:= .agg #[.int .i64 kind,.string path,.string dD,.int .i64 fd,.int .i64 at_,.int .i64 n,.int .u64 aA,.int .i64 snap,.slice da dl dc]
theorem st_doA{W w:World}{o:Mark}{i p:Nat}{c:Int}{M:dS}{S:Nat→Prop}(h:Bt W o i w p c M)(hi:0<i)(hc:c≤1000000000)(x:jD)(hx:lY x)(da:Option Addr)(dc:Nat)(hda:ah S w da x.data.length (x.data.map bv))(m:Int)(hm:W.cell? ⟨0,0,none⟩=some (.int .i64 m))(v:Value)(hv:v= .agg (opC x da dc)):
  Calls Tryz.prog 25 #[ptr p,v] w (DoW W o i w p c M x):=by rw[hv];exact st_do h hi hc x hx da dc hda m hm
def DoE(W:World)(o:Mark)(i:Nat)(w:World)(p:Nat)(c:Int)(r:rZ)(M':dS)(e:Ending)(w':World):Prop:=
 ∃o',xZ o' r e w'∧Step o (Five i) w o' w'∧Bt W o' i w' p (c+1) M'
theorem Nb{W w:World}{o:Mark}{i p:Nat}{c:Int}{M M':dS}{r:rZ}{S:Nat→Prop}(h:Bt W o i w p c M)(hi:0<i)(hc:c≤1000000000)(x:jD)(hx:lY x)(da:Option Addr)(dc:Nat)(hda:ah S w da x.data.length (x.data.map bv))(m:Int)(hm:W.cell? ⟨0,0,none⟩=some (.int .i64 m))(v:Value)(hv:v= .agg (opC x da dc))(he:dH M x=(r,M')):
  Calls Tryz.prog 25 #[ptr p,v] w (DoE W o i w p c r M'):=by
 refine(st_doA h hi hc x hx da dc hda m hm v hv).mono ?_;rintro e w' ⟨o',h1,h2,h3⟩;rw[he]at h1 h3;exact⟨o',h1,h2,h3⟩
theorem Ih{W w:World}{o:Mark}{i p:Nat}{c:Int}{M M':dS}{r:rZ}(h:Bt W o i w p c M)(hi:0<i)(hc:c≤1000000000)(x:jD)(hx:lY x)(m:Int)(hm:W.cell? ⟨0,0,none⟩=some (.int .i64 m))(v:Value)(hv:v= .agg (opC x none 0))(hd:x.data=[])(he:dH M x=(r,M')):
  Calls Tryz.prog 25 #[ptr p,v] w (DoE W o i w p c r M'):=Nb (S:=fun _=>True) h hi hc x hx none 0 (by rw[hd];exact ah.nil _ _ _) m hm v hv he
structure vZ(o:Mark)(w:World)(g:Nat)(r:rZ)(da la:Option Addr)(dc lc:Nat):Prop where
 own:o g=0
 low:g<w.heap.size
 at_:w.heap[g]? =some (.cells (eu r da la dc lc) 41 (0,0))
 dcap:r.data.length≤dc
 lcap:r.names.length≤lc
 data:ah (Free o w) w da r.data.length (r.data.map bv)
 names:aK (Free o w) w la r.names.length (r.names.map strOf)
abbrev reZ:Array Value:= #[.int .i64 0,.int .i64 0,.slice none 0 0,.slice none 0 0,.int .i64 0,.int .i64 0,.int .i64 0,.int .i64 0,.int .u64 0,.bool false]
section
variable{W w w' w4 w5:World}{o o':Mark}{g:Nat}{r:rZ}{da la:Option Addr}{dc lc:Nat}
theorem vZ.step{I:Nat→Prop}(h:vZ o w g r da la dc lc)(h0:¬I 0)(hs:Step o I w o' w'):vZ o' w' g r da la dc lc:=
 ⟨(hs.old g h.low).trans h.own,Pd h.low hs.keep.size,(hs.block h.low (by rw[h.own];exact h0)).trans h.at_,h.dcap,h.lcap,h.data.free h0 hs,⟨h.names.row.free h0 hs,h.names.short⟩⟩
theorem vZ.five{i:Nat}(h:vZ o w g r da la dc lc)(hi:0<i)(hs:Step o (Five i) w o' w'):vZ o' w' g r da la dc lc:=h.step (fun e=>by have:=e.1;omega) hs
theorem vZ.grow(h:vZ o w g r da la dc lc)(hM:Marks W o w)(hb:Below w.heap.size w w'):vZ o w' g r da la dc lc:=h.step (I:=fun _=>False) (fun e=>e) (Step.grow hM hb)
theorem Cw(hM:Marks W o w4)(h1:r.data.length≤dc)(h2:r.names.length≤lc)(h3:ah (Free o w4) w4 da r.data.length (r.data.map bv))(h4:aK (Free o w4) w4 la r.names.length (r.names.map strOf))
  (hs:jo (w4.alloc (.cells reZ 41)) w4.heap.size (eu r da la dc lc) 41 w5):vZ o w5 w4.heap.size r da la dc lc∧Below w4.heap.size w4 w5:=by
 have hb:=hs.below (wall w4 (.cells reZ 41)) acC;have hlt:w4.heap.size<w5.heap.size:=(iA.1 hs.1).1;have hst:Step o (fun _=>False) w4 o w5:=Step.grow hM hb;exact⟨⟨aaj fun h0=>by have:=(hM.new _ h0).2;omega,hlt,hs.1,h1,h2,h3.free (fun e=>e) hst,⟨h4.row.free (fun e=>e) hst,h4.short⟩⟩,hb⟩
theorem vZ.er(h:vZ o w g r da la dc lc):w.cell? ⟨g,0,none⟩=some (.int .i64 r.er):=by simp[World.cell?,h.at_,eu]
theorem vZ.n(h:vZ o w g r da la dc lc):w.cell? ⟨g,1,none⟩=some (.int .i64 r.n):=by simp[World.cell?,h.at_,eu]
theorem Vv(vs:List Value)(t:TypeId)(m:Nat×Nat)(hm:vs.length≤maxLen):ah (fun x=>x=w.heap.size) (w.alloc (.cells vs.toArray t m)) (some ⟨w.heap.size,0,none⟩) vs.length vs:=by
 refine⟨rfl,hm,fun _=>⟨_,0,rfl,rfl,by simp,fun i hi=> ?_⟩⟩;have hh:(w.alloc (.cells vs.toArray t m)).heap[w.heap.size]? =some (.cells vs.toArray t m):=(MapKept.heap_alloc w _).1;simp only[World.cell?,hh];simp
end
structure Q8(q:Nat)(o:Mark)(w:World)(g:Nat)(x:jD)(da:Option Addr)(dc:Nat):Prop where
 own:o g=q
 low:g<w.heap.size
 at_:w.heap[g]? =some (.cells (opC x da dc) 30 (0,0))
section
variable{W w w' w4 w5:World}{o o':Mark}{q g i p:Nat}{c:Int}{x:jD}{M:dS}{da:Option Addr}{dc:Nat}
theorem Q8.step{I:Nat→Prop}(h:Q8 q o w g x da dc)(h0:¬I q)(hs:Step o I w o' w'):Q8 q o' w' g x da dc:=
 ⟨(hs.old g h.low).trans h.own,Pd h.low hs.keep.size,(hs.block h.low (by rw[h.own];exact h0)).trans h.at_⟩
theorem Q8.grow(h:Q8 q o w g x da dc)(hM:Marks W o w)(hb:Below w.heap.size w w'):Q8 q o w' g x da dc:=h.step (I:=fun _=>False) (fun e=>e) (Step.grow hM hb)
theorem Q8.cells(h:Q8 q o w g x da dc):w.cell? ⟨g,0,none⟩=some (.int .i64 x.kind)∧w.cell? ⟨g,1,none⟩=some (.string (strOf x.path))∧w.cell? ⟨g,2,none⟩=some (.string (strOf x.dD))∧w.cell? ⟨g,3,none⟩=some (.int .i64 x.fd)∧w.cell? ⟨g,4,none⟩=some (.int .i64 x.at_)∧w.cell? ⟨g,5,none⟩=some (.int .i64 x.n)∧w.cell? ⟨g,6,none⟩=some (.int .u64 x.aA)∧w.cell? ⟨g,7,none⟩=some (.int .i64 x.snap)∧w.cell? ⟨g,8,none⟩=some (.slice da x.data.length dc)∧w.frozen? ⟨g,6,none⟩=false:=by
 have:=h.at_;unfold opC at this;refine⟨?_,?_,?_,?_,?_,?_,?_,?_,?_,?_⟩<;>simp[World.cell?,World.frozen?,this]
abbrev opZ:Array Value:= #[.int .i64 0,.string ⟨#[]⟩,.string ⟨#[]⟩,.int .i64 0,.int .i64 0,.int .i64 0,.int .u64 0,.int .i64 0,.slice none 0 0]
theorem Vw(hM:Marks W o w4)(q:Nat)(hs:jo (w4.alloc (.cells opZ 30)) w4.heap.size (opC x da dc) 30 w5):∃o',Step o (fun m=>m=q) w4 o' w5∧Q8 q o' w5 w4.heap.size x da dc:=by
 have hb:=hs.below (wall w4 (.cells opZ 30)) acC;have hlt:w4.heap.size<w5.heap.size:=(iA.1 hs.1).1;obtain⟨o',hs',h1,h2⟩:=gW hM q (fun b=>b=w4.heap.size) (w':=w5) (fun b hb=>by subst hb;exact⟨Nat.le_refl _,hlt⟩) hb;exact⟨o',hs',h1 _ rfl,hlt,hs.1⟩
theorem Bt.one(h:Bt W o i w p c M)(hq:q≠0∧(q<i∨i+2<q))(hs:Step o (fun m=>m=q) w o' w'):Bt W o' i w' p c M:=
 ⟨h.st.step (fun e=>by omega) (fun e=>by omega) (fun e=>by omega) (fun e=>by omega) hs,h.marks.step (fun e=>by omega) hs,h.ok⟩
theorem vZ.one{r:rZ}{la:Option Addr}{lc:Nat}(h:vZ o w g r da la dc lc)(hq:q≠0)(hs:Step o (fun m=>m=q) w o' w'):vZ o' w' g r da la dc lc:=h.step (fun e=>hq e.symm) hs
end
theorem Vx{S S':Nat→Prop}(a a':Option Addr)(len cap len' cap':Nat)(ss ss':List ByteArray)(w:World)(h:aK S w a len ss)(h':aK S' w a' len' ss'):
  Calls Tryz.prog 68 #[.slice a len cap,.slice a' len' cap'] w fun e w'=>e= .returned (.bool (decide (ss=ss')))∧Below w.heap.size w w':=by
 have hl:=h.length;have hl':=h'.length;have hm:=h.row.small;have hm':=h'.row.small;unfold maxLen at hm hm';by_cases hne:len=len'
 ·subst hne;have HL:=acA hl;have HL':=acA hl';clear hl hl';go_enter Tryz.func68,Tryz.ntmps68;go_wp2
  go_loopw [5] (fun i wr=>∃k:Nat,k≤len∧i= .int .i64 k∧ss.take k=ss'.take k∧Below w.heap.size w wr) (fun i _=>len-(intOf i).toNat)
  case atStart=>exact⟨0,by omega,rfl,rfl,Below.refl _ _⟩
  case round=>
   obtain⟨k,hk,rfl,ht,hb⟩:=hrel;have HT:=acA ht;clear ht;by_cases hlt:k<len
   ·obtain⟨b,off,x,rfl,_,_,hx,_,hc⟩:=(h.below hb acC).cell k hlt;obtain⟨b',off',y,rfl,_,_,hy,_,hc'⟩:=(h'.below hb acC).cell k hlt;have HX:=acA hx;have HY:=acA hy;clear hx hy h h';have hk0:(0:Int)≤(k:Int):=by omega
    have hk1:(k:Int)<(len:Int):=by omega
    by_cases hxy:x=y
    ·subst hxy;go_wp2
     go_quiet (fail)
     go_wp2;go_roundw
     case rel=>exact⟨k+1,by omega,by go_num,zy HT.o HX.o HY.o,hb.trans ⟨rfl,rfl,rfl,Nat.le_refl _,fun _ _=>rfl⟩⟩
     case measure=>simp[intOf];omega
    ·have hxl:=FW hxy;have HN:=acA hxy;clear hxy;go_wp2
     go_quiet (fail)
     go_wp2;go_ret;exact⟨gU (by simp[xJ HX.o HY.o HN.o]),hb.trans ⟨rfl,rfl,rfl,Nat.le_refl _,fun _ _=>rfl⟩⟩
   ·go_wp2;go_ret;refine⟨gU ?_,hb⟩;have:=HT.o;rw[List.take_of_length_le (by have:=HL.o;omega),List.take_of_length_le (by have:=HL'.o;omega)]at this;simp[this]
 ·have hne':ss≠ss':=fun e=>hne (by rw[←hl,←hl',e]);have HN:=acA hne';have hb0:((len:Int) !=(len':Int))=true:=by simp;omega
  clear hl hl' hne hne';go_enter Tryz.func68,Tryz.ntmps68;go_wp2;go_ret;exact⟨gU (by simp[HN.o]),Below.refl _ _⟩
abbrev Ii(e n:Int)(da:Option Addr)(dl dc:Nat)(la:Option Addr)(ll lc:Nat)(k0 k1 k2 k3 k4:Int)(k5:Bool):Array Value:= #[.int .i64 e,.int .i64 n,.slice da dl dc,.slice la ll lc,.int .i64 k0,.int .i64 k1,.int .i64 k2,.int .i64 k3,.int .u64 k4,.bool k5]
theorem Nc{S1 S2 S3 S4:Nat→Prop}(e n:Int)(bs:List UInt8)(ss:List ByteArray)(dl ll:Nat)(k0 k1 k2 k3 k4:Int)(k5:Bool)(da la Vy la':Option Addr)(dc lc RN YK:Nat)(w:World)
  (h1:ah S1 w da dl (bs.map bv))(h2:ah S2 w Vy dl (bs.map bv))(h3:aK S3 w la ll ss)(h4:aK S4 w la' ll ss):
  Calls Tryz.prog 24 #[.agg (Ii e n da dl dc la ll lc k0 k1 k2 k3 k4 k5),.agg (Ii e n Vy dl RN la' ll YK k0 k1 k2 k3 k4 k5)] w fun en w'=>en= .returned (.bool true)∧Below w.heap.size w w':=by
 obtain⟨w2,hw2⟩:∃w2,w2=(w.alloc (.cells (Ii e n da dl dc la ll lc k0 k1 k2 k3 k4 k5) 41)).alloc (.cells (Ii e n Vy dl RN la' ll YK k0 k1 k2 k3 k4 k5) 41):=⟨_,rfl⟩;have hb2:Below w.heap.size w w2:=by rw[hw2];exact(wall w _).trans ((wall _ _).mono (by simp))
 have hA:w2.heap[w.heap.size]? =some (.cells (Ii e n da dl dc la ll lc k0 k1 k2 k3 k4 k5) 41 (0,0)):=by
  rw[hw2];exact((MapKept.heap_alloc (w.alloc (.cells (Ii e n da dl dc la ll lc k0 k1 k2 k3 k4 k5) 41)) _).2 w.heap.size (by simp)).trans (MapKept.heap_alloc w _).1
 have hB:w2.heap[w.heap.size+1]? =some (.cells (Ii e n Vy dl RN la' ll YK k0 k1 k2 k3 k4 k5) 41 (0,0)):=by
  rw[hw2];have:=(MapKept.heap_alloc (w.alloc (.cells (Ii e n da dl dc la ll lc k0 k1 k2 k3 k4 k5) 41)) (.cells (Ii e n Vy dl RN la' ll YK k0 k1 k2 k3 k4 k5) 41)).1;simpa using this
 have HK:acB (∀w',Below w2.heap.size w2 w'→w'.cell? ⟨w.heap.size,0,none⟩=some (.int .i64 e)∧w'.cell? ⟨w.heap.size,1,none⟩=some (.int .i64 n)∧w'.cell? ⟨w.heap.size,2,none⟩=some (.slice da dl dc)∧w'.cell? ⟨w.heap.size,3,none⟩=some (.slice la ll lc)∧w'.cell? ⟨w.heap.size,4,none⟩=some (.int .i64 k0)∧w'.cell? ⟨w.heap.size,5,none⟩=some (.int .i64 k1)∧w'.cell? ⟨w.heap.size,6,none⟩=some (.int .i64 k2)∧w'.cell? ⟨w.heap.size,7,none⟩=some (.int .i64 k3)∧w'.cell? ⟨w.heap.size,8,none⟩=some (.int .u64 k4)∧w'.cell? ⟨w.heap.size,9,none⟩=some (.bool k5)∧w'.cell? ⟨w.heap.size+1,0,none⟩=some (.int .i64 e)∧w'.cell? ⟨w.heap.size+1,1,none⟩=some (.int .i64 n)∧w'.cell? ⟨w.heap.size+1,2,none⟩=some (.slice Vy dl RN)∧w'.cell? ⟨w.heap.size+1,3,none⟩=some (.slice la' ll YK)∧w'.cell? ⟨w.heap.size+1,4,none⟩=some (.int .i64 k0)∧w'.cell? ⟨w.heap.size+1,5,none⟩=some (.int .i64 k1)∧w'.cell? ⟨w.heap.size+1,6,none⟩=some (.int .i64 k2)∧w'.cell? ⟨w.heap.size+1,7,none⟩=some (.int .i64 k3)∧w'.cell? ⟨w.heap.size+1,8,none⟩=some (.int .u64 k4)∧w'.cell? ⟨w.heap.size+1,9,none⟩=some (.bool k5)∧(convert 28 9 (.slice da dl dc)).run Tryz.prog w'= .ok (.string (strOf bs)) w'∧(convert 28 9 (.slice Vy dl RN)).run Tryz.prog w'= .ok (.string (strOf bs)) w'):=fun w' hb=>by
  have a1:=(hb.block w.heap.size (iA.1 hA).1).trans hA;have a2:=(hb.block (w.heap.size+1) (iA.1 hB).1).trans hB;refine⟨?_,?_,?_,?_,?_,?_,?_,?_,?_,?_,?_,?_,?_,?_,?_,?_,?_,?_,?_,?_,?_,?_⟩
  ·simp[World.cell?,a1]
  ·simp[World.cell?,a1]
  ·simp[World.cell?,a1]
  ·simp[World.cell?,a1]
  ·simp[World.cell?,a1]
  ·simp[World.cell?,a1]
  ·simp[World.cell?,a1]
  ·simp[World.cell?,a1]
  ·simp[World.cell?,a1]
  ·simp[World.cell?,a1]
  ·simp[World.cell?,a2]
  ·simp[World.cell?,a2]
  ·simp[World.cell?,a2]
  ·simp[World.cell?,a2]
  ·simp[World.cell?,a2]
  ·simp[World.cell?,a2]
  ·simp[World.cell?,a2]
  ·simp[World.cell?,a2]
  ·simp[World.cell?,a2]
  ·simp[World.cell?,a2]
  ·exact mD ((h1.below hb2 acC).below hb acC)
  ·exact mD ((h2.below hb2 acC).below hb acC)
 have hsm:=(fun w' (hb:Below w2.heap.size w2 w')=>Vx la la' ll lc ll YK ss ss w' ((h3.below hb2 acC).below hb acC) ((h4.below hb2 acC).below hb acC));rw[decide_eq_true (rfl:ss=ss)]at hsm;have Z_:=acA hsm;clear hsm;have HB2:=acA hb2;have HW2:=acA hw2;have hq:=HK.o _ acD;rw[hw2]at hq;obtain⟨p0,p1,p2,p3,-,-,-,-,-,-,z0,z1,z2,z3,-,-,-,-,-,-,cv1,cv2⟩:=hq;clear h1 h2 h3 h4 hA hB hb2 hw2;go_enter Tryz.func24,Tryz.ntmps24;go_wp2_with fail;refine(Z_.o _ (by rw[HW2.o];exact Below.refl _ _)).mono ?_;rintro en w3 ⟨rfl,hb3⟩;have HB3:acB (Below w2.heap.size w2 w3):=by rw[HW2.o];exact acA hb3
 have hq:=HK.o _ HB3.o;obtain⟨-,-,-,-,q4,q5,q6,q7,q8,q9,-,-,-,-,r4,r5,r6,r7,r8,r9,-,-⟩:=hq;clear hb3;go_wp2_with fail;go_ret;exact⟨rfl,HB2.o.trans (HB3.o.mono HB2.o.size)⟩
theorem Nf{B n:Nat}{v:Value}{vals:List Value}{w:World}(hv:w.ownsRow B 148 3 v n vals)(h1:∀u∈vals,u.oneCell'=true)(hn:n≤1000):
  Calls Tryz.prog 164 #[v] w fun e w'=>∃v',e= .returned v'∧w'.ownsRow w.heap.size 148 3 v' n vals∧Below w.heap.size w w':=by
 obtain⟨i0,hi,hz0,hz1,hz2⟩:=aap G6;obtain⟨a,c,rfl,hcap⟩:=dI hv;obtain⟨-,-,hr⟩:=ah.qd hv (by unfold maxLen;omega);have heq:=fun w=>Lib.run_eql_slice_nil (P:=Tryz.prog) w 107 148 a n c 0 0 Tryz.underlying107;rcases a with _|ad
 ·have h0:n=0:=by
   rcases abh n with h0|h0
   ·exact h0
   ·obtain⟨_,_,h,_⟩:=hr.at_ (Nat.mul_pos h0 (by omega:0<3));cases h
  subst h0;obtain rfl:vals=[]:=aai (by have:=hr.length;omega);clear hv hr h1;go_enter Tryz.func164,Tryz.ntmps164;go_wp2_with fail;go_ret;exact⟨_,rfl,⟨rfl,.inl ⟨rfl,rfl⟩⟩,Below.refl _ _⟩
 ·have hb0:Below w.heap.size w (w.alloc (.cells #[] 148)):=wall w _;have HR:=acA (hr.move hb0.size fun b hb hbw=>⟨hb.2,hb0.block b hb.2⟩);have HO:=acA (oQ (k:=3) (MapKept.heap_alloc w (.cells #[] 148)).1 acC);have H1:=acA h1;have HB0:=acA hb0;clear hv hr h1 hb0;go_enter Tryz.func164,Tryz.ntmps164;go_wp2_with (at_builtin;refine dQ (by rfl) _ _ 107 (by rfl) w.heap.size 148 i0 _ 3 40 Tryz.underlying107 hi hz0 hz1 hz2 rfl (by omega) _ _ _ (by rfl) HO.o (some ad) n c vals (by rfl) HR.o H1.o (by unfold maxLen;omega) (by omega) (by have:=HB0.o.size;omega) ?_;intro A' c' w2 hown2 hb2);go_ret;rw[Nat.zero_add]at hown2;exact⟨_,by simp,hown2,HB0.o.trans hb2⟩
section
variable{W w:World}{o:Mark}{i j k p s:Nat}{S:rE}
theorem Gl(hS:iF o i w s S)(hM:Marks W o w)(uW:S.l.length≤8)(hla:S.last.length≤64)(j:Nat)(hj:j≠0):
  Calls Tryz.prog 87 #[ptr s] w fun e w'=>∃q o',e= .returned (ptr q)∧Step o (fun k=>k=j) w o' w'∧iF o' j w' q S∧Below w.heap.size w w':=by
 obtain⟨v,la,lc,vals,h1,h2,h3,h4,h5,h6,h7,h8⟩:=hS.at_;have HM:=acA hM;have HO:=acA h6;have HLA:=acA h8;obtain⟨n,hn⟩:∃n,n=S.l.length:=⟨_,rfl⟩;obtain⟨m,hm⟩:∃m,m=S.last.length:=⟨_,rfl⟩;obtain⟨nx,hnx⟩:∃nx,nx=S.next:=⟨_,rfl⟩;rw[←hn]at h4 uW;rw[←hm,←hnx]at h1;rw[←hm]at h7 hla;have HN:=acA hn;have Gt:=acA hm;have LX:=acA hnx;have HL7:=acA h7;have HK:acB (∀w',Below w.heap.size w w'→w'.cell? ⟨s,0,none⟩=some v∧w'.cell? ⟨s,1,none⟩=some (.int .i64 nx)∧w'.cell? ⟨s,2,none⟩=some (.slice la m lc)):=fun w' hb=>by
  have hs:=(hb.block s h3).trans h1;refine⟨?_,?_,?_⟩<;>simp[World.cell?,hs]
 have Py:=fun(w':World) (hb:Below w.heap.size w w')=>Nf (dJ h4 fun b _ hbw=>hb.block b hbw) h6.one (by omega);have HC:=acA Py;clear hS hM h1 h2 h3 h4 h5 h6 h7 h8 hn hm hnx Py;go_enter Tryz.func87,Tryz.ntmps87;go_wp2_with fail;refine yG ((fun w'=>w'.cell? ⟨s,0,none⟩=some v∧w'.cell? ⟨s,1,none⟩=some (.int .i64 nx)∧w'.cell? ⟨s,2,none⟩=some (.slice la m lc))) ?_ fun hS=> ?_
 ·exact HK.o _ acD.drew
 refine aP 0 hS ?_;refine aP 1 hS ?_;refine aP 2 hS ?_;refine aP 3 hS ?_;refine aP 5 hS ?_;refine aP 6 hS ?_;refine aP 7 hS ?_;refine aP 8 hS ?_;refine aP 9 hS ?_;refine aP 10 hS ?_;refine aP 11 hS ?_;refine aP 12 hS ?_;refine qh 4 fun K hK=> ?_;go_simp;refine(HC.o w.drew acD.drew).mono ?_;rintro e w1 ⟨v',rfl,hv',hb1⟩;have hb01:Below w.heap.size w w1:=acD.drew.trans hb1;have HB1:=acA hb01;obtain⟨a',c',rfl,hac'⟩:=dI hv';have HV:=acA hv';clear hv' hb1 hb01 hac';go_wp2_with fail;refine pW hK (HK.o _ HB1.o) fun hS=> ?_;clear hK K;refine aP 13 hS ?_;refine qh 14 fun K hK=> ?_;go_simp;have BX:=wall w1 (.cells #[.slice a' n c',.int .i64 nx,.slice la m lc] 109);have Vz:=acA BX;have HB2:=acA (HB1.o.trans (BX.mono HB1.o.size));clear BX;refine pW hK (HK.o _ HB2.o) fun hS=> ?_;clear hK K;refine aP 15 hS ?_;refine xW ?_;go_wp2_with fail;go_ret;have hs12:w1.heap.size<(w1.alloc (.cells #[.slice a' n c',.int .i64 nx,.slice la m lc] 109)).heap.size:=by simp
 have hs01:=HB1.o.size;obtain⟨o',hs,g1,g2⟩:=gW HM.o j (fun b=>b=w1.heap.size∨(Value.slice a' n c').ownBlock=some b) (w':=w1.alloc (.cells #[.slice a' n c',.int .i64 nx,.slice la m lc] 109)) (fun b hb=>by
  rcases hb with rfl|hb
  ·exact⟨by omega,hs12⟩
  ·have:=bA HV.o b hb;have:=Ck HV.o b hb;exact⟨by simpa using bA HV.o b hb,by omega⟩) HB2.o
 refine⟨w1.heap.size,o',rfl,hs,⟨.slice a' n c',la,lc,vals,?_,g1 _ (.inl rfl),hs12,?_,fun b hb=>⟨g1 b (.inr hb),?_,?_⟩,?_,?_,?_⟩,HB2.o⟩
 ·rw[←LX.o,←Gt.o];exact(MapKept.heap_alloc w1 _).1
 ·rw[←HN.o];exact dJ (zk HV.o (Nat.zero_le _)) fun b _ hbw=>Vz.o.block b hbw
 ·have:=Ck HV.o b hb;omega
 ·have:=Ck HV.o b hb;omega
 ·exact HO.o.step (fun e=>hj e.symm) hs
 ·rw[←Gt.o];exact HL7.o
 ·exact HLA.o.move HB2.o.size fun b hb hbw=>⟨⟨(hs.old b hb.2).trans hb.1,Pd hb.2 HB2.o.size⟩,HB2.o.block b hb.2⟩
def ru(M:dS):dS:=⟨bL M.t,M.s,M.now,fun _=>none⟩
theorem Ij{M:dS}(hS:bZ o i j k w p M)(hM:Marks W o w)(hT:dG M.t)(uW:M.s.l.length≤8)(hla:M.s.last.length≤64){i' j' k' l':Nat}(hk:Mk i' j' k' l')(hni:i'≠i∧j'≠i)(hf:∀b,o b≠j'):
  Calls Tryz.prog 31 #[ptr p] w fun e w'=>∃q o',e= .returned (ptr q)∧Step o (fun m=>m=i'∨m=j'∨m=k') w o' w'∧bZ o' i' j' k' w' q (ru M)∧Below w.heap.size w w':=by
 obtain⟨n1,n2,n3,n4,n5,n6,n7,n8,n9,n10⟩:=hk.ne;obtain⟨t,s,v,h1,h2,h3,h4⟩:=hS.at_;have hlow:=hS.low;obtain⟨now,Ec⟩:∃now,now=M.now:=⟨_,rfl⟩;rw[←Ec]at h1;have HNOW:=acA Ec;have HK:acB (∀w',Below w.heap.size w w'→w'.cell? ⟨p,0,none⟩=some (ptr t)∧w'.cell? ⟨p,1,none⟩=some (ptr s)∧w'.cell? ⟨p,2,none⟩=some (.int .u64 now)):=fun w' hb=>by
  obtain⟨z0,z1,z2,-⟩:=gF ((hb.block p hlow).trans h1);exact⟨z0,z1,z2⟩
 have hbd:Below w.heap.size w w.drew:=acD.drew;have Zj:=acA (hM.grow hbd);have fq:=acA (h2.grow hM hbd);have HC:=acA (xE (h3.grow hbd) Zj.o hT j' n2 hf);have HSG:=acA (Step.grow (I:=fun m=>m=i'∨m=j'∨m=k') hM hbd);have RB:=acA hbd;clear hS hM hT h1 h2 h3 h4 hf hk Ec hbd;go_enter Tryz.func31,Tryz.ntmps31;go_wp2_with fail;refine yG ((fun w'=>w'.cell? ⟨p,0,none⟩=some (ptr t)∧w'.cell? ⟨p,1,none⟩=some (ptr s)∧w'.cell? ⟨p,2,none⟩=some (.int .u64 now))) ?_ fun hS=> ?_
 ·exact HK.o _ acD.drew
 refine aP 0 hS ?_;refine aP 1 hS ?_;refine aP 2 hS ?_;refine aP 3 hS ?_;refine aP 5 hS ?_;refine aP 6 hS ?_;refine aP 7 hS ?_;refine aP 8 hS ?_;refine aP 10 hS ?_;refine aP 11 hS ?_;refine aP 12 hS ?_;refine aP 13 hS ?_;refine qh 4 fun K hK=> ?_;go_simp;refine HC.o.mono ?_;rintro e w1 ⟨q,o1,rfl,hs1,hT1,hb1⟩;have hM1:=Zj.o.step (fun e=>n2 e.symm) hs1;have hS1:=fq.o.step (fun e=>n2 e.symm) (fun e=>hni.2 e.symm) hs1;have Rq:=acA (Gl hS1 hM1 uW hla i' n1);have pz:=acA hM1;have HT1:=acA hT1;have jI:=acA hs1;have HB1:=acA (RB.o.trans hb1);clear hM1 hS1 hT1 hs1 hb1 fq HC;go_wp2_with fail;refine pW hK (HK.o _ HB1.o) fun hS=> ?_;clear hK K;refine qh 9 fun K hK=> ?_;go_simp;refine Rq.o.mono ?_;rintro e w2 ⟨s2,o2,rfl,hs2,hS2,hb2⟩;have Gt:=acA (pz.o.step (fun e=>n1 e.symm) hs2);have HT2:=acA (HT1.o.step (fun e=>n1 e.symm) (fun e=>n5 e.symm) hs2);have HS2:=acA hs2;have RD:=acA hS2;have HB2:=acA (HB1.o.trans (hb2.mono HB1.o.size));clear hs2 hS2 hb2 Rq;go_wp2_with fail;refine pW hK (HK.o _ HB2.o) fun hS=> ?_;clear hK K;refine aP 14 hS ?_;refine qh 15 fun K hK=> ?_;go_simp;have hb3:Below w2.heap.size w2 (w2.alloc (.cells (Ew q s2 now fun _=> .pointer none) 57)):=wall w2 _;have HB3:=acA hb3;have dY:=acA (HB2.o.trans (hb3.mono HB2.o.size));clear hb3;refine pW hK (HK.o _ dY.o) fun hS=> ?_;clear hK K;refine aP 16 hS ?_;refine xW ?_;go_wp2_with fail;go_ret;obtain⟨o3,hs3,g1,g2⟩:=gW Gt.o k' (fun b=>b=w2.heap.size) (w':=w2.alloc (.cells (Ew q s2 now fun _=> .pointer none) 57)) (fun b hb=>by subst hb;exact⟨Nat.le_refl _,by simp⟩) HB3.o;have h0k:¬(fun m=>m=k') 0:=fun e=>n3 e.symm;have hst:Step o (fun m=>m=i'∨m=j'∨m=k') w o3 _:=((HSG.o.trans (jI.o.mono fun m hm=> .inr (.inl hm))).trans (HS2.o.mono fun m hm=> .inl hm)).trans (hs3.mono fun m hm=> .inr (.inr hm));exact⟨w2.heap.size,o3,rfl,hst,⟨⟨q,s2,fun _=> .pointer none,by rw[show(ru M).now=now from HNOW.o.symm];exact(MapKept.heap_alloc w2 _).1,RD.o.step h0k n6 hs3,HT2.o.step h0k n8 hs3,fun n hn=>rfl⟩,g1 _ rfl,by simp⟩,dY.o⟩
theorem gK.settled{c:Int}{M:dS}(h:gK c M):gK c (ru M):=⟨h.t.bL,h.s,h.next,h.now,fun n f hf=>by cases hf⟩
end
section
variable{W w:World}{o:Mark}{i j k p:Nat}{M:dS}
theorem Q9(hS:bZ o i j k w p M)(hM:Marks W o w)(hok:dG M.t):Calls Tryz.prog 29 #[ptr p] w fun e w'=>∃q,e= .returned (ptr q)∧fO o 0 w' q M.t∧Below w.heap.size w w':=by
 obtain⟨t,s,v,h1,h2,h3,h4⟩:=hS.at_;obtain⟨z0,z1,z2,z3,z4⟩:=gF h1;have HC:=acA (JE h3 hM hok);clear hS hM hok h1 h2 h3 h4 z1 z2 z3 z4;go_enter Tryz.func29,Tryz.ntmps29;go_wp2_with fail;refine HC.o.mono ?_;rintro e w1 ⟨q,rfl,hT,hb⟩;have HT:=acA hT;have HB:=acA hb;clear hT hb;go_wp2_with fail;go_ret;exact⟨q,rfl,HT.o,HB.o⟩
end
def vk(x:jC):List UInt8:=fT x.id 8++sN x.hash++fT (gV x.t).length 8++gV x.t
def kr(S:rE):List UInt8:=fT S.next 8++sN S.last++fT S.l.length 1++S.l.flatMap vk
structure Ng(S:rE):Prop where
 few:S.l.length≤8
 last:S.last.length≤64
 next:0≤S.next∧S.next≤1000000000
 each:∀x∈S.l,(0≤x.id∧x.id≤1000000000)∧x.hash.length≤64
theorem rV{T:aL}(hT:dG T):(gV T).length≤6000000:=by
 have h1:=qB hT T (fun q hq=>hq);have h2:=hT.len;unfold gV;rw[List.length_append,bT];omega
theorem KL{x:jC}(hT:dG x.t)(hh:x.hash.length≤64):(vk x).length≤6000100:=by
 have:=rV hT;unfold vk;simp only[List.length_append,bT,nK];omega
theorem Em{o:Mark}{w:World}:∀{vs:List Value} {l:List jC},eH o w vs l→(∀x∈l,x.hash.length≤64)→(l.flatMap vk).length≤6000100*l.length
 |_,[],_,_=>by simp
 |_,x::r,⟨v1,v2,h1,h2,h3⟩,hh=>by
  obtain⟨a,c,q,e1,e2,e3,e4,e5⟩:=h2;have k1:=KL e5 (hh x (by simp));have k2:=Em h3 fun y hy=>hh y (by simp[hy]);rw[List.flatMap_cons,List.length_append,List.length_cons];omega
theorem Gm{l:List jC}{k:Nat}{x:jC}(h:l[k]? =some x):(l.take (k+1)).flatMap vk=(l.take k).flatMap vk++vk x:=by
 obtain⟨hk,e⟩:=aae.1 h;rw[aah hk,aaX,e];simp
theorem EU{o:Mark}{w:World}{vs:List Value}{l:List jC}(h:eH o w vs l)(hh:∀x∈l,x.hash.length≤64)(h8:l.length≤8)(k:Nat):((l.take k).flatMap vk).length≤50000000:=by
 have:=Em (h.take k) fun x hx=>hh x (List.mem_of_mem_take hx);have h9:(l.take k).length≤8:=by rw[aan];omega
 omega
def Aside(x:Nat)(v:Value)(lo hi:Nat):Prop:=∀b,lo≤b→b<hi→b≠x∧v.ownBlock≠some b
theorem Aside.more{B x lo hi:Nat}{w w':World}{v v':Value}{bs':List UInt8}(h:Aside x v lo hi)(hm:lV B w x v bs' v' w')(hw:hi≤w.heap.size):Aside x v' lo hi∧∀b,lo≤b→b<hi→w'.heap[b]? =w.heap[b]? :=by
 refine⟨fun b h1 h2=>⟨(h b h1 h2).1,fun h9=> ?_⟩,fun b h1 h2=>hm.2.1.block b (by omega) fun h9=> ?_⟩
 ·rcases hm.2.2 b h9 with h3|h3
  ·exact(h b h1 h2).2 h3
  ·omega
 ·rcases h9 with h3|h3
  ·exact(h b h1 h2).1 h3
  ·exact(h b h1 h2).2 h3
section
variable{W w:World}{o:Mark}{i s:Nat}{S:rE}
def xO(w:World)(x:Nat)(bs:List UInt8)(wr:World):Prop:=∃v,dN w.heap.size wr x v bs∧Below w.heap.size w wr
theorem xO.more{w:World}{x:Nat}{bs bs':List UInt8}{wr w':World}{v:Value}{e:Ending}(h:dN w.heap.size wr x v bs)(hb:Below w.heap.size w wr)(ht:rR w.heap.size wr x v bs' e w'):e= .returned (.tuple #[])∧xO w x bs' w':=by
 obtain⟨rfl,v',hm⟩:=ht;exact⟨rfl,v',hm.1,hb.trans (hm.low h)⟩
theorem Cx(z:Int)(h0:0≤z)(h1:z≤1000000000):∀w,(convert 3 27 (.int .i64 z)).run Tryz.prog w= .ok (.int .u64 z) w:=fun w=>by
 have hk:Tryz.prog.intKind 27= .u64:=by kernel_rfl
 have:=run_convert_int (P:=Tryz.prog) w 3 27 .i64 z (by rw[aa8];rfl) (by rw[hk];exact Tryz.underlying27);rw[this,hk];have e:IntKind.u64.wrap z=z:=by
  show z%18446744073709551616=z;omega
 rw[e]
theorem Gn(hS:iF o i w s S)(hM:Marks W o w)(hv:Ng S):Calls Tryz.prog 36 #[ptr s] w (tT w (kr S)):=by
 obtain⟨v,la,lc,vals,h1,h2,h3,h4,h5,h6,h7,h8⟩:=hS.at_;obtain⟨a,c,rfl,hcap⟩:=dI h4;have tX:=hv.few;obtain⟨-,-,hrow⟩:=ah.qd h4 (by unfold maxLen;omega);have xI:=acA h6;have iL:=acA hrow;have Xy:=acA h8;have Ma:=acA h7;have HM:=acA hM;have HV:=acA hv;have KZ:=acA (EU h6 (fun x hx=>(hv.each x hx).2) hv.few);have HH:acB (∀w',Below w.heap.size w w'→w'.cell? ⟨s,0,none⟩=some (.slice a S.l.length c)∧w'.cell? ⟨s,1,none⟩=some (.int .i64 S.next)∧w'.cell? ⟨s,2,none⟩=some (.slice la S.last.length lc)):=fun w' hb=>by
  have:=(hb.block s h3).trans h1;refine⟨?_,?_,?_⟩<;>simp[World.cell?,this]
 have hcn:=Cx S.next hv.next.1 hv.next.2;obtain⟨n,hn⟩:∃n,n=S.l.length:=⟨_,rfl⟩;have HN:=acA hn;rw[←hn]at HH hcap tX;have hll:=hv.last;have hnx:=hv.next;obtain⟨c0,c1,c2⟩:=HH.o w acD;clear hS hM hv h1 h2 h4 h5 h6 h7 h8 hrow hn;go_enter Tryz.func36,Tryz.ntmps36;go_wp2_with fail;refine(oH _).mono ?_;rintro e w1 ⟨rfl,hW1,hb1⟩;have HW1:=acA hW1;have HB1:=acA hb1;obtain⟨d0,d1,d2⟩:=HH.o w1 hb1;clear hW1 hb1 c0 c1 c2;go_wp2_with fail;refine(sI HW1.o S.next hnx.1 (by omega) (by simp)).mono ?_;intro e w2 ht2;obtain⟨rfl,x2,hW2,hb2⟩:=xO.more HW1.o HB1.o ht2;have HW2:=acA hW2;have HB2:=acA hb2;obtain⟨e0,e1,e2⟩:=HH.o w2 hb2;clear ht2 hW2 hb2 d0 d1 d2 HW1;go_wp2_with fail;have hlr:=Xy.o.below HB2.o acC;refine(yS HW2.o la S.last.length lc S.last hlr (fun b hb=>⟨by have:=HW2.o.low;omega,fun h9=>by have:=bA HW2.o.own b h9;omega⟩) Ma.o (by simp[bT]) (by omega)).mono ?_;intro e w3 ht3;obtain⟨rfl,x3,hW3,hb3⟩:=xO.more HW2.o HB2.o ht3;have HW3:=acA hW3;have HB3:=acA hb3;obtain⟨f0,f1,f2⟩:=HH.o w3 hb3;clear ht3 hW3 hb3 e0 e1 e2 HW2 hlr;go_wp2_with fail;refine(yQ HW3.o (n:Int) (by omega) (by omega) (by simp[bT];omega)).mono ?_;intro e w4 Ki;obtain⟨rfl,x4,Xc,hb4⟩:=xO.more HW3.o HB3.o Ki;have O6:=acA Xc;have dY:=acA hb4;obtain⟨k0,k1,k2⟩:=HH.o w4 hb4;clear Ki Xc hb4 f0 f1 f2 HW3;obtain⟨pre,hpre⟩:∃pre,pre=[]++fT S.next 8++(fT (S.last.length:Int) 2++S.last)++fT (n:Int) 1:=⟨_,rfl⟩;have hprl:pre.length≤1000:=by rw[hpre];simp[bT];omega
 rw[←hpre]at O6;have HPRE:=acA hpre;clear hpre;go_wp2_with fail
 go_loopw [5,6,33] (fun _ _ iv wr=>∃k:Nat,iv= .int .i64 k∧k≤n∧xO w w.heap.size (pre++(S.l.take k).flatMap vk) wr) (fun _ _ iv _=>n-(intOf iv).toNat)
 case atStart=>exact⟨0,rfl,Nat.zero_le _,x4,by simpa using O6.o,dY.o⟩
 case round=>
  obtain⟨k,rfl,hk,y,hy,hby⟩:=hrel;have HY:=acA hy;have Vp:=acA hby;have hbl:=KZ.o k;clear hy hby;by_cases hlt:k<n
  ·have hd:decide ((k:Int)<(n:Int))=true:=by simpa using hlt
   obtain⟨x,hx⟩:∃x,S.l[k]? =some x:=⟨S.l[k]'(by have:=HN.o;omega),List.getElem?_eq_getElem _⟩;have HRW:=iL.o;rw[←HN.o]at HRW;obtain⟨g,off,rfl,hgw,_,hcell⟩:=HRW.at_ (by omega);obtain⟨ha,hcp,q,r0,r1,r2,r3,r4,r5,r6⟩:=xI.o.at_ hx;have q0:wr.cell? ⟨g,off+k*3,none⟩=some (.int .i64 x.id):=(Vp.o.cell (p:=⟨g,off+k*3,none⟩) hgw.2).trans ((hcell (k*3) (by omega)).trans r0);have q1:wr.cell? ⟨g,off+k*3+1,none⟩=some (.slice ha x.hash.length hcp):=(Vp.o.cell (p:=⟨g,off+k*3+1,none⟩) hgw.2).trans ((hcell (k*3+1) (by omega)).trans r1);have q2:wr.cell? ⟨g,off+k*3+2,none⟩=some (ptr q):=(Vp.o.cell (p:=⟨g,off+k*3+2,none⟩) hgw.2).trans ((hcell (k*3+2) (by omega)).trans r2);have hid:=HV.o.each x (aax hx);have hci:=Cx x.id hid.1.1 hid.1.2;have hsb:=rV r6;have hcb:=Cx ((gV x.t).length:Int) (by omega) (by omega);have HX:=acA hx;have HR4:=acA r4;have mP:=acA r5;have Dv:=acA r6;have i0:(0:Int)≤(k:Int):=by omega
   have i1:(k:Int)<(n:Int):=by omega
   have hs0:=Vp.o.size;clear hx r0 r1 r2 r4 r5 r6 hcell HRW;go_wp2_with fail;have hub:=wall wr (.cells #[.int .i64 x.id,.slice ha x.hash.length hcp,ptr q] 148);have hu1:=(MapKept.heap_alloc wr (.cells #[.int .i64 x.id,.slice ha x.hash.length hcp,ptr q] 148)).1;refine(Cg (mP.o.grow (Vp.o.trans (Below.mono hub hs0))) Dv.o).mono ?_;rintro e u2 ⟨ba,bn,bc,rfl,hbc,hbr,hb6⟩;have hbl2:bn=(gV x.t).length:=by have:=hbr.length;simpa using this.symm
   subst hbl2;have hyl:=kR HY.o.own;have hxl:=HY.o.lt;have hu2:=(hb6.block wr.heap.size (by simp)).trans hu1;have hbu:Below wr.heap.size wr u2:=hub.trans (hb6.mono hub.size);have JD:=acA (hbr.mono (S':=fun b=>wr.heap.size≤b∧b<u2.heap.size) fun b hb=>⟨Nat.le_trans hub.size hb.1,hb.2⟩);have HAS:acB (Aside w.heap.size y wr.heap.size u2.heap.size):=fun b h1 h2=>⟨by omega,fun h9=>by have:=hyl b h9;omega⟩;have WQ:=acA (HY.o.below hbu);have mM:=acA (Vp.o.trans (hbu.mono hs0));have HU2:=acA hu2;have hwu:wr.heap.size<u2.heap.size:=(iA.1 hu2).1;have v0:u2.cell? ⟨wr.heap.size,0,none⟩=some (.int .i64 x.id):=by simp[World.cell?,hu2]
   have v1:u2.cell? ⟨wr.heap.size,1,none⟩=some (.slice ha x.hash.length hcp):=by simp[World.cell?,hu2]
   have hl6:(pre++(S.l.take k).flatMap vk).length≤50001000:=by rw[List.length_append];omega
   obtain⟨b0,hb0⟩:∃b0,b0=pre++(S.l.take k).flatMap vk:=⟨_,rfl⟩;rw[←hb0]at hl6;have HW6':acB (dN w.heap.size u2 w.heap.size y b0):=by rw[hb0];exact WQ
   have LW:=acA hb0;clear hub hu1 hbr hb6 hyl hu2 hbu q0 q1 q2 HY WQ hb0;go_wp2_with fail;refine(sI HW6'.o x.id hid.1.1 (by omega) (by omega)).mono ?_;rintro e u3 ⟨rfl,y3,Fx⟩;obtain⟨has3,hk3⟩:=HAS.o.more Fx acC;have hu3:=(hk3 wr.heap.size acC hwu).trans HU2.o;have Rt:=acA Fx.1;have wZ:=acA (mM.o.trans (Fx.low HW6'.o));have HAS3:=acA has3;have hs3:=Fx.2.1.size;have HBR3:=acA (JD.o.kept hs3 (fun b hb _=>hk3 b hb.1 hb.2));have v1':u3.cell? ⟨wr.heap.size,1,none⟩=some (.slice ha x.hash.length hcp):=by simp[World.cell?,hu3]
   clear Fx has3 hk3 hu3 v0 v1 HW6' JD;go_wp2_with fail;have hhr:=HR4.o.below wZ.o acC;refine(yS Rt.o ha x.hash.length hcp x.hash hhr (fun b hb=>⟨by omega,fun h9=>by have:=bA Rt.o.own b h9;omega⟩) (by omega) (by simp[bT];omega) (by omega)).mono ?_;rintro e u4 ⟨rfl,y4,WO⟩;obtain⟨has4,hk4⟩:=HAS3.o.more WO hs3;have hs4:=WO.2.1.size;have ZV:=acA WO.1;have rD:=acA (wZ.o.trans (WO.low Rt.o));have HAS4:=acA has4;have HBR4:=acA (HBR3.o.kept hs4 (fun b hb _=>hk4 b hb.1 hb.2));clear WO has4 hk4 v1' hhr Rt HBR3;go_wp2_with fail;refine(sI ZV.o ((gV x.t).length:Int) (by omega) (by omega) (by simp[bT];omega)).mono ?_;rintro e u5 ⟨rfl,y5,Ls⟩;obtain⟨has5,hk5⟩:=HAS4.o.more Ls (by omega);have hs5:=Ls.2.1.size;have HW9:=acA Ls.1;have uL:=acA (rD.o.trans (Ls.low ZV.o));have HBR5:=acA (HBR4.o.kept hs5 (fun b hb _=>hk5 b hb.1 hb.2));clear Ls has5 hk5 ZV HBR4;go_wp2_with fail;refine(Ce HW9.o ba (gV x.t).length bc (gV x.t) HBR5.o (by simp[bT];omega) (by omega)).mono ?_;rintro e u6 ⟨rfl,y6,Sk⟩;have HWA:=acA Sk.1;have J4:=acA (uL.o.trans (Sk.low HW9.o));clear Sk HW9 HBR5;go_wp2_with fail;go_roundw
   case rel=>
    refine⟨k+1,by go_num,by omega,y6,?_,J4.o⟩;have h9:=HWA.o;rw[LW.o]at h9;rw[Gm HX.o,vk,sN];simpa only[aau]using h9
   case measure=>simp[intOf];omega
  ·have hd:decide ((k:Int)<(n:Int))=false:=by simp;omega
   obtain rfl:k=n:=by omega
   have hkl:S.l.take k=S.l:=List.take_of_length_le (by have:=HN.o;omega);rw[hkl]at HY hbl;go_wp2_with fail;refine(yT HY.o (by rw[List.length_append];omega)).mono ?_;rintro e u2 ⟨ba,bn,bc,rfl,hbc,hbr,hb6⟩;have JD:=acA hbr;have mM:=acA hb6;clear hbr hb6;go_wp2_with fail;go_ret;have hs0:=Vp.o.size;refine⟨ba,bn,bc,rfl,hbc,?_,Vp.o.trans (mM.o.mono hs0)⟩;have e:pre++S.l.flatMap vk=kr S:=by
    rw[HPRE.o,HN.o];unfold kr sN;simp
   have h9:=JD.o;rw[e]at h9;exact h9.mono fun b hb=>⟨by omega,hb.2⟩
end
def kK(M:dS):List UInt8:=fT M.now 8++fT (gV (bL M.t)).length 8++gV (bL M.t)++kr M.s
def lD(S:rE):Prop:=∀x∈S.l,(0≤x.id∧x.id≤S.next)∧x.hash.length≤64
theorem lD.new:lD NP:=fun x hx=>by cases hx
theorem lD.take{S:rE}(h:lD S)(h0:0≤S.next)(T:aL):lD (gX S T).2:=by
 unfold gX;split
 ·exact h
 ·intro x hx;rcases aaL.1 hx with hx|hx
  ·have:=h x hx;exact⟨⟨this.1.1,by have:=this.1.2;show x.id≤S.next+1;omega⟩,this.2⟩
  ·rw[List.mem_singleton.1 hx];exact⟨⟨h0,by show S.next≤S.next+1;omega⟩,N8 _⟩
theorem lD.forget{S:rE}(h:lD S)(id now:Int):lD (iH S id now).2:=by
 rcases DI S id now with e|⟨k,e⟩
 ·rw[e];exact h
 ·rw[e];intro x hx;rcases aaL.1 (show x∈S.l.take k++S.l.drop (k+1)from hx)with hx|hx
  ·exact h x (List.mem_of_mem_take hx)
  ·exact h x (List.mem_of_mem_drop hx)
theorem lD.do_{M:dS}(h:lD M.s)(h0:0≤M.s.next)(x:jD):lD (dH M x).2.s:=by
 have hc:=XB M x;generalize (dH M x).2=M' at hc⊢;cases hc with
 |take=>exact h.take h0 _
 |forget=>exact h.forget _ _
 |tick h16=>exact h
 |same=>exact h
 |make ls kind=>exact h
 |create ls h1 h2=>exact h
 |opens T ls y h1 h2 h3 h4 h5 h6=>exact h
 |write f h1=>exact h
 |closes f h1 h2 h3=>exact h
 |shut f h1 h2=>exact h
 |link p q=>exact h
 |unlink ls h1 h2=>exact h
 |rmdir ls=>exact h
 |rename p q=>exact h
 |keep ls h1=>exact h
theorem gK.sv{c:Int}{M:dS}(h:gK c M)(hc:c≤1000000000)(hi:lD M.s):Ng M.s:=
 ⟨h.s.few,h.s.last,⟨h.next.1,by have:=h.next.2;omega⟩,fun x hx=>by have:=hi x hx;have:=h.next.2;exact⟨⟨by omega,by omega⟩,by omega⟩⟩
theorem En{o:Mark}{i:Nat}{w:World}{s:Nat}{S:rE}(hS:iF o i w s S)(hv:Ng S):(kr S).length≤50001000:=by
 obtain⟨v,la,lc,vals,h1,h2,h3,h4,h5,h6,h7,h8⟩:=hS.at_;have:=Em h6 fun x hx=>(hv.each x hx).2;have:=hv.few;have:=hv.last;unfold kr;simp only[List.length_append,bT,nK];omega
section
variable{W w:World}{o:Mark}{i j k p:Nat}{M:dS}{c:Int}
theorem Eo(hS:bZ o i j k w p M)(hM:Marks W o w)(hok:gK c M)(hv:Ng M.s):Calls Tryz.prog 19 #[ptr p] w (tT w (kK M)):=by
 obtain⟨t,s,v,h1,h2,h3,h4⟩:=hS.at_;have hlow:=hS.low;have HC:=acA (xG h3 hM hok.t.1);have HM:=acA hM;have RD:=acA h2;have HV:=acA hv;have iM:=acA hok.t.1.bL;have Ec:=hok.now;have HH:acB (∀w',Below w.heap.size w w'→w'.cell? ⟨p,0,none⟩=some (ptr t)∧w'.cell? ⟨p,1,none⟩=some (ptr s)∧w'.cell? ⟨p,2,none⟩=some (.int .u64 M.now)):=fun w' hb=>by
  obtain⟨z0,z1,z2,-⟩:=gF ((hb.block p hlow).trans h1);exact⟨z0,z1,z2⟩
 obtain⟨c0,c1,c2⟩:=HH.o w acD;clear hS hM hok hv h1 h2 h3 h4;go_enter Tryz.func19,Tryz.ntmps19;go_wp2_with fail;refine HC.o.mono ?_;rintro e w1 ⟨q,rfl,hT,hb1⟩;have HT:=acA hT;have HB1:=acA hb1;clear hT hb1 HC;go_wp2_with fail;refine(Cg HT.o iM.o).mono ?_;rintro e w2 ⟨ba,bn,bc,rfl,hbc,hbr,hb2⟩;have hsb:=rV iM.o;obtain⟨C,hC⟩:∃C,C=gV (bL M.t):=⟨_,rfl⟩;rw[←hC]at hbr hsb;have HCE:=acA hC;have hbl:bn=C.length:=by have:=hbr.length;simpa using this.symm
 subst hbl;have JD:=acA hbr;have BX:=HB1.o.trans (hb2.mono HB1.o.size);have HB2:=acA BX;obtain⟨d0,d1,d2⟩:=HH.o w2 BX;clear hbr hb2 BX hC c0 c1 c2;go_wp2_with fail;refine(oH _).mono ?_;rintro e w3 ⟨rfl,hW3,hb3⟩;have HW3:=acA hW3;have HB3:=acA hb3;have Nh:=HB2.o.trans (hb3.mono HB2.o.size);obtain⟨e0,e1,e2⟩:=HH.o w3 Nh;clear hW3 hb3 Nh d0 d1 d2;go_wp2_with fail;refine(sI HW3.o M.now Ec.1 (by omega) (by simp)).mono ?_;intro e w4 Ki;obtain⟨rfl,x4,Xc,hb4⟩:=xO.more HW3.o HB3.o Ki;have O6:=acA Xc;have dY:=acA hb4;have Q_:=HB2.o.trans (hb4.mono HB2.o.size);obtain⟨f0,f1,f2⟩:=HH.o w4 Q_;have hcv:=Cx (C.length:Int) (by omega) (by omega);clear Ki Xc hb4 Q_ e0 e1 e2 HW3;go_wp2_with fail;refine(sI O6.o (C.length:Int) (by omega) (by omega) (by simp[bT])).mono ?_;intro e w5 RF;obtain⟨rfl,x5,hW5,hb5⟩:=xO.more O6.o dY.o RF;have ZU:=acA hW5;have fH:=acA hb5;have hb15:=HB2.o.trans (hb5.mono HB2.o.size);obtain⟨g0,g1,g2⟩:=HH.o w5 hb15;have hbr5:=JD.o.kept hb5.size (fun b hb _=>hb5.block b hb.2);clear RF hW5 hb5 hb15 f0 f1 f2 O6 hcv;go_wp2_with fail;refine(Ce ZU.o ba C.length bc C hbr5 (by simp[bT]) (by omega)).mono ?_;intro e w6 K7;obtain⟨rfl,x6,hW6,hb6⟩:=xO.more ZU.o fH.o K7;have WQ:=acA hW6;have mM:=acA hb6;have EW:=HB2.o.trans (hb6.mono HB2.o.size);have HB16:=acA EW;obtain⟨k0,k1,k2⟩:=HH.o w6 EW;have HSN6:=acA (RD.o.step (I:=fun _=>False) (fun e=>e) (fun e=>e) (Step.grow HM.o EW));have SL:=acA (HM.o.grow EW);have hsl:=En HSN6.o HV.o;clear K7 hW6 hb6 EW g0 g1 g2 ZU hbr5;go_wp2_with fail;refine(Gn HSN6.o SL.o HV.o).mono ?_;rintro e w7 ⟨sa,sn,sc,rfl,hsc,hsr,vY⟩;have Cn:=acA hsr;have Rt:=acA (WQ.o.below vY);have wZ:=acA (mM.o.trans (vY.mono mM.o.size));have hsl2:sn=(kr M.s).length:=by have:=hsr.length;simpa using this.symm
 subst hsl2;clear hsr vY WQ;go_wp2_with fail;refine(Ce Rt.o sa (kr M.s).length sc (kr M.s) Cn.o (by simp[bT];omega) (by omega)).mono ?_;intro e w8 ht8;obtain⟨rfl,x8,hW8,sP⟩:=xO.more Rt.o wZ.o ht8;have ZV:=acA hW8;have rD:=acA sP;clear ht8 hW8 sP Rt;go_wp2_with fail;refine(yT ZV.o (by simp[bT];omega)).mono ?_;rintro e w9 ⟨ra,rn,rc,rfl,hrc,hrr,cO⟩;have HRR:=acA hrr;have uL:=acA cO;clear hrr cO;go_wp2_with fail;go_ret;have hs2:=HB2.o.size;have IG:=rD.o.size;refine⟨ra,rn,rc,rfl,hrc,?_,(HB2.o.trans (rD.o.mono hs2)).trans (uL.o.mono (by omega))⟩;have e:[]++fT M.now 8++fT (C.length:Int) 8++C++kr M.s=kK M:=by
  rw[HCE.o];unfold kK;simp
 have h9:=HRR.o;rw[e]at h9;exact h9.mono fun b hb=>⟨by omega,hb.2⟩
end
section
variable{W w:World}{o:Mark}{i j k p:Nat}{M:dS}
end
theorem Ra{S1 S2 S3 S4:Nat→Prop}(r:rZ)(da la Vy la':Option Addr)(dc lc RN YK:Nat)(w:World)
  (h1:ah S1 w da r.data.length (r.data.map bv))(h2:ah S2 w Vy r.data.length (r.data.map bv))(h3:aK S3 w la r.names.length (r.names.map strOf))(h4:aK S4 w la' r.names.length (r.names.map strOf)):
  Calls Tryz.prog 24 #[.agg (eu r da la dc lc),.agg (eu r Vy la' RN YK)] w fun en w'=>en= .returned (.bool true)∧Below w.heap.size w w':=
 Nc r.er r.n r.data (r.names.map strOf) r.data.length r.names.length _ _ _ _ _ _ da la Vy la' dc lc RN YK w h1 h2 h3 h4
def lZ(M:dS)(k:Nat):List Int:=((List.range k).filter fun n=>(M.fds n).isSome).map fun n:Nat=>(n:Int)
def KM(M:dS):List Int:=lZ M 8
theorem Bw{M:dS}{k:Nat}{f:EL}(h:M.fds k=some f):lZ M (k+1)=lZ M k++[(k:Int)]:=by
 unfold lZ;rw[acs,aaZ,List.map_append,List.filter_cons_of_pos (by rw[h];rfl)];rfl
theorem Bz{M:dS}{k:Nat}(h:M.fds k=none):lZ M (k+1)=lZ M k:=by
 unfold lZ;rw[acs,aaZ,List.map_append,List.filter_cons_of_neg (by rw[h];simp)];simp
theorem Ep(M:dS)(k:Nat):(lZ M k).length≤k:=by
 unfold lZ;rw[List.length_map];have:=aaY (fun n=>(M.fds n).isSome) (List.range k);rw[List.length_range]at this;exact this
section
variable{W w:World}{o:Mark}{i j k p:Nat}{M:dS}
theorem Er(h:bZ o i j k w p M):Calls Tryz.prog 33 #[ptr p] w (Ca w (KM M)):=by
 obtain⟨ti,hi,hz0,hz1,hz2⟩:=aap Cj;obtain⟨t,s,v,h1,h2,h3,h4⟩:=h.at_;obtain⟨c0,c1,c2,c3,c4⟩:=gF h1;have e3:=c3 0 (by omega);have e4:=c3 1 (by omega);have e5:=c3 2 (by omega);have e6:=c3 3 (by omega);have e7:=c3 4 (by omega);have e8:=c3 5 (by omega);have e9:=c3 6 (by omega);have e10:=c3 7 (by omega);have H4:=acA h4;clear h h1 h2 h3 h4 c3 c4;go_enter Tryz.func33,Tryz.ntmps33;go_wp2_with fail
 go_loopw [3,10] (fun u iv wr=>∃n:Nat,n≤8∧iv= .int .i64 n∧wr.ownsRow w.heap.size 3 1 u (lZ M n).length ((lZ M n).map (Value.int .i64))∧Below w.heap.size w wr) (fun _ iv _=>8-(intOf iv).toNat)
 case atStart=>exact⟨0,by omega,rfl,⟨rfl,.inl ⟨rfl,rfl⟩⟩,Below.refl _ _⟩
 case round=>
  obtain⟨n,hn,rfl,hO,hb⟩:=hrel;have hbs:=hb.size;have HO:=acA hO;have HB:=acA hb;obtain⟨a5,c5,rfl,Ud⟩:=dI hO;clear hO hb;by_cases lF:n<8
  ·have hd:decide ((n:Int)<8)=true:=by simp;omega
   have hix:=JN v n lF wr;have hf:=H4.o n lF;have i0:(0:Int)≤n:=by omega
   cases qz:M.fds n with
   |none=>
    rw[qz]at hf;have hv:v n= .pointer none:=hf;rw[hv]at hix;have HE:=acA (Bz qz);clear hf hv qz;go_wp2_with fail;go_roundw
    case rel=>exact⟨n+1,by omega,by go_num,by rw[HE.o];exact HO.o,HB.o⟩
    case measure=>simp[intOf];omega
   |some f=>
    rw[qz]at hf;obtain⟨q,fa,fc,hv,_⟩:=hf;rw[hv]at hix;have HE:=acA (Bw qz);have hb5:Below wr.heap.size wr (wr.alloc (.cells #[.int .i64 n] 3)):=wall wr _;have JL:=acA (qo HO.o hb5);have fH:=acA hb5;have iL:=acA (rO (w:=wr) (.int .i64 n) 3);have Ci:=hb5.size;obtain⟨L,hL⟩:∃L,L=(lZ M n).length:=⟨_,rfl⟩;have hLn:L≤8:=by rw[hL];have:=Ep M n;omega
    rw[←hL]at JL Ud;have FH:=acA hL;rw[←hL];clear hv qz hb5 hL;go_wp2_with (at_builtin;(refine aS (by rfl) _ _ 71 (by rfl) w.heap.size 3 ti (.int .i64 0) 8 Tryz.underlying71 hi hz0 hz1 hz2 rfl _ _ _ (by rfl) JL.o (some ⟨wr.heap.size,0,none⟩) 1 1 [.int .i64 n] (by rfl) iL.o (DF [(n:Int)]) (by unfold maxLen;omega) (by omega) (Nat.le_trans hbs Ci) ?_);intro A' c' w6 hown6 vN _ _);have RA:=acA hown6;have HG6:=acA vN;clear hown6 vN;go_roundw
    case rel=>
     refine⟨n+1,by omega,by go_num,?_,?_⟩
     ·rw[HE.o,List.map_append,List.length_append,←FH.o];exact RA.o
     ·exact(HB.o.trans (fH.o.mono hbs)).grown HG6.o (by omega) (bA JL.o)
    case measure=>simp[intOf];omega
  ·have hd:decide ((n:Int)<8)=false:=by simp;omega
   obtain rfl:n=8:=by omega
   go_wp2_with fail;go_ret;exact⟨a5,c5,rfl,Ud,(ah.pJ HO.o).2.mono (fun b hb=>⟨by omega,hb.2⟩),HB.o⟩
end
end Go.Proofs.YtjnhnlabpccgjaaGreatDoor
