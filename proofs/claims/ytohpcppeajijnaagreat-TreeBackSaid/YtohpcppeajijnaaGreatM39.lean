/- A block that is laid anew as a whole; a struct result that lies in a variable. node.Right of what was read; node.Decode. All paths of a node, plainly. All paths, whatever the order of a directory's names. -/
import Derived.Test.YtohpcppeajijnaaGreatM02
import Derived.Laws.Tables
import Derived.Laws.Rows
import Derived.Test.YtohpcppeajijnaaGreatM38
import Derived.Test.YtohpcppeajijnaaGreatM16
namespace Go.Proofs.YtohpcppeajijnaaGreat
open Go.ChangeShapes Go.WideShapes Go.ChangeAt Go.RowKit
set_option linter.unusedVariables false
set_option linter.unusedSimpArgs false
def Ap (w:World) (g:Nat) (cs:Array Value) (t:TypeId) (w':World):Prop:=w'.heap[g]? =some (.cells cs t (0,0))∧Keeps (fun b=>b=g) w w'∧w'.heap.size=w.heap.size
theorem DT (w:World) (g:Nat) (old cs:Array Value) (t:TypeId) (hg:w.heap[g]? =some (.cells old t (0,0))):Ap w g cs t (w.setRow g cs):=by
 have hz:(w.setRow g cs).heap.size=w.heap.size:=by simp[World.setRow]
 exact⟨setRow_heap w g old cs t _ hg,⟨rfl,rfl,rfl,by omega,fun b _ hb=>setRow_other w g b cs hb⟩,hz⟩
theorem ko {P:Program} {ops:Array Oper} {rest:List Oper} {o:Oper} {a:Act} {w:World} {Q:Exit→Act→World→Prop} (hgd:o.guard=none) (ty:TypeId) (x y:Operand) (ho:o.op= .store ty x y)
  (g:Nat) (cells:Array Value) (hx:a.eval x= .pointer (some ⟨g,0,none⟩)) (hy:a.eval y= .agg cells)
  (old:Array Value) (hg:w.heap[g]? =some (.cells old ty (0,0))) (hi:(P.info? ty).map (·.size)=some cells.size)
  (hold:old.size=cells.size) (h1:cells.all (·.oneCell')=true)
  (h:∀w',Ap w g cells ty w'→wpList P ops Q rest (a.put o.dst undef) w'):wpList P ops Q (o::rest) a w:=
 wpList_store_row hgd ty x y ho g cells hx hy ty old hg hi hold h1 (h _ (DT w g old cells ty hg))
theorem Ap.below {w0 w w':World} {g:Nat} {cs:Array Value} {t:TypeId} (h:Ap w g cs t w') (hb:Below w0.heap.size w0 w) (hg:w0.heap.size≤g):Below w0.heap.size w0 w':=by
 obtain⟨_,h2,h3⟩:=h
 exact⟨h2.os.trans hb.os,h2.tape.trans hb.tape,h2.output.trans hb.output,Nat.le_trans hb.size h2.size,fun b hb'=>(h2.block b (Nat.lt_of_lt_of_le hb' hb.size) (fun e:b=g=>by omega)).trans (hb.block b hb')⟩
theorem yt {P:Program} {fn:Func} {a b:Nat} {t:TypeId} {tmps:Array Value} {ad:Addr} {v:Value} {w:World} (h:fn.results= #[.cell a t, .tmp b]) (ha:tmps.getD a undef= .pointer (some ad)) (hl:(loadVar t ad).run P w= .ok v w):(results fn tmps).run P w= .ok (.tuple #[v,tmps.getD b undef]) w:=by
 have ha2:tmps[a]?.getD undef= .pointer (some ad):=by simpa using ha
 simp[results,h,asAddr,ha2,hl]
theorem sU:(Tryz.prog.info? 98).map (·.size)=some 6:=by kernel_rfl
def zF:Array Value:= #[.int .i64 0, .int .i64 0, .int .i64 0, .int .i64 0, .int .u64 0, .bool false]
theorem xH {fn:Func} {sl b':Nat} {Q:Ending→World→Prop} {a:Act} {w:World} {b:Nat} {cs:Array Value} {z:Value} (hf:fn.results= #[.cell sl 98, .tmp b']) (hs:a.tmps.getD sl undef= .pointer (some ⟨b,0,none⟩)) (hz:a.tmps.getD b' undef=z) (hd:a.defers=[]) (hg:w.heap[b]? =some (.cells cs 98 (0,0))) (h6:cs.size=6) (hQ:Q (.returned (.tuple #[.agg cs,z])) w):
  bodyPost Tryz.prog fn Q .ret a w:=by
 subst hz
 exact bodyPost_ret (v:= .tuple #[.agg cs,a.tmps.getD b' undef]) (yt hf hs (run_loadVar_row w b 98 98 _ (0,0) _ hg Tryz.underlying98 rfl (by rw[h6];exact sU))) hd hQ
def OD (n:EX):Array Value:= #[.int .i64 n.id, .int .i64 n.kind, .int .i64 n.links, .int .i64 n.size, .int .u64 n.aK, .bool n.closed]
set_option maxHeartbeats 4000000 in
theorem DU (n:EX) (h:Gn n) (w:World):Calls Tryz.prog 134 #[.agg (OD n)] w fun e w'=>e= .returned (.bool (decide (iH n)))∧Below w.heap.size w w':=by
 obtain⟨id,kind,links,size,aK,closed⟩:=n
 obtain⟨⟨i0,i1⟩,⟨k0,k1⟩,⟨l0,l1⟩,⟨s0,s1⟩,⟨t0,t1⟩⟩:=h
 dsimp only at i0 i1 k0 k1 l0 l1 s0 s1 t0 t1
 have d1:decide (id<0)=false:=by simpa using i0
 have d2:decide (65535<id)=false:=by simpa using i1
 have d3:decide (links<0)=false:=by simpa using l0
 have d4:decide (65535<links)=false:=by simpa using l1
 have d7:decide ((0:Int)≤size)=true:=by simpa using s0
 have n1:¬id<0:=by omega
 have n2:¬65535<id:=by omega
 have n3:¬links<0:=by omega
 have n4:¬65535<links:=by omega
 unfold OD
 dsimp only
 by_cases h1:kind=1
 ·subst h1
  by_cases q1:size≤4096
  ·have c1:decide (size≤4096)=true:=decide_eq_true q1
   by_cases q2:aK≤1099511627776
   ·have c2:decide (aK≤1099511627776)=true:=decide_eq_true q2
    rw[decide_eq_true (show iH ⟨id,1,links,size,aK,closed⟩from .inl ⟨rfl,q1,q2⟩)]
    go_enter Tryz.func134,Tryz.ntmps134
    go_wp2
    all_goals (first|(go_ret;exact⟨rfl,wall w _⟩)|((try simp only[Exit.inBlock,Exit.then]);refine bodyPost_ret (by rfl) rfl ?_;exact⟨rfl,wall w _⟩))
   ·have c2:decide (aK≤1099511627776)=false:=decide_eq_false q2
    rw[decide_eq_false (show ¬iH ⟨id,1,links,size,aK,closed⟩from fun h=>by
     rcases h with h|h
     ·exact q2 h.2.2
     ·exact absurd (show(1:Int)=2 from h.1) (by decide))]
    go_enter Tryz.func134,Tryz.ntmps134
    go_wp2
    all_goals (first|(go_ret;exact⟨rfl,wall w _⟩)|((try simp only[Exit.inBlock,Exit.then]);refine bodyPost_ret (by rfl) rfl ?_;exact⟨rfl,wall w _⟩))
  ·have c1:decide (size≤4096)=false:=decide_eq_false q1
   rw[decide_eq_false (show ¬iH ⟨id,1,links,size,aK,closed⟩from fun h=>by
    rcases h with h|h
    ·exact q1 h.2.1
    ·exact absurd (show(1:Int)=2 from h.1) (by decide))]
   go_enter Tryz.func134,Tryz.ntmps134
   go_wp2
   all_goals (first|(go_ret;exact⟨rfl,wall w _⟩)|((try simp only[Exit.inBlock,Exit.then]);refine bodyPost_ret (by rfl) rfl ?_;exact⟨rfl,wall w _⟩))
 ·have g1:(kind==1)=false:=by simpa using h1
  by_cases h2:kind=2
  ·subst h2
   by_cases q1:size=0
   ·subst q1
    by_cases q2:aK=0
    ·subst q2
     cases closed
     ·rw[decide_eq_false (show ¬iH ⟨id,2,links,0,0,false⟩from fun h=>by
       rcases h with h|h
       ·exact absurd (show(2:Int)=1 from h.1) (by decide)
       ·exact absurd (show false=true from h.2.2.2) (by decide))]
      go_enter Tryz.func134,Tryz.ntmps134
      go_wp2
      all_goals (first|(go_ret;exact⟨rfl,wall w _⟩)|((try simp only[Exit.inBlock,Exit.then]);refine bodyPost_ret (by rfl) rfl ?_;exact⟨rfl,wall w _⟩))
     ·rw[decide_eq_true (show iH ⟨id,2,links,0,0,true⟩from .inr ⟨rfl,rfl,rfl,rfl⟩)]
      go_enter Tryz.func134,Tryz.ntmps134
      go_wp2
      all_goals (first|(go_ret;exact⟨rfl,wall w _⟩)|((try simp only[Exit.inBlock,Exit.then]);refine bodyPost_ret (by rfl) rfl ?_;exact⟨rfl,wall w _⟩))
    ·have g2:(aK==0)=false:=by simpa using q2
     rw[decide_eq_false (show ¬iH ⟨id,2,links,0,aK,closed⟩from fun h=>by
      rcases h with h|h
      ·exact absurd (show(2:Int)=1 from h.1) (by decide)
      ·exact q2 h.2.2.1)]
     go_enter Tryz.func134,Tryz.ntmps134
     go_wp2
     all_goals (first|(go_ret;exact⟨rfl,wall w _⟩)|((try simp only[Exit.inBlock,Exit.then]);refine bodyPost_ret (by rfl) rfl ?_;exact⟨rfl,wall w _⟩))
   ·have g2:(size==0)=false:=by simpa using q1
    rw[decide_eq_false (show ¬iH ⟨id,2,links,size,aK,closed⟩from fun h=>by
     rcases h with h|h
     ·exact absurd (show(2:Int)=1 from h.1) (by decide)
     ·exact q1 h.2.1)]
    go_enter Tryz.func134,Tryz.ntmps134
    go_wp2
    all_goals (first|(go_ret;exact⟨rfl,wall w _⟩)|((try simp only[Exit.inBlock,Exit.then]);refine bodyPost_ret (by rfl) rfl ?_;exact⟨rfl,wall w _⟩))
  ·have g2:(kind==2)=false:=by simpa using h2
   rw[decide_eq_false (show ¬iH ⟨id,kind,links,size,aK,closed⟩from fun h=>by
    rcases h with h|h
    ·exact h1 h.1
    ·exact h2 h.1)]
   go_enter Tryz.func134,Tryz.ntmps134
   go_wp2
   all_goals (first|(go_ret;exact⟨rfl,wall w _⟩)|((try simp only[Exit.inBlock,Exit.then]);refine bodyPost_ret (by rfl) rfl ?_;exact⟨rfl,wall w _⟩))
theorem qg {w w':World} {x B:Nat} (hK:Keeps (fun b=>b=x) w w') (hx:B≤x) (hB:B≤w.heap.size):Below B w w':=hK.jd hB fun b hb e=>by
 have e':b=x:=e
 omega
set_option maxRecDepth 100000 in
set_option maxHeartbeats 8000000 in
theorem DV {S:Nat→Prop} (a:Option Addr) (n c:Nat) (bs:List UInt8) (w:World) (hm:n≤100000000) (hr:av S w a n (bs.map bv)):
  Calls Tryz.prog 155 #[.slice a n c] w fun e w'=>e= .returned (.tuple #[.agg (OD (bW bs).1), .int .i64 (bW bs).2])∧Below w.heap.size w w':=by
 obtain⟨w1,hw1⟩:∃w1,w1=w.alloc (.cells zF 98):=⟨_,rfl⟩
 have hb1:Below w.heap.size w w1:=by rw[hw1];exact wall w _
 have hre:w1.heap[w.heap.size]? =some (.cells zF 98 (0,0)):=by rw[hw1];exact(MapKept.heap_alloc w _).1
 have hs1:w1.heap.size=w.heap.size+1:=by rw[hw1];simp
 have HN:=Lib.hid (ru a n c bs w1 hm (hr.below hb1 (Nat.le_refl _)))
 have HW1:=Lib.hid hw1
 have HB1:=Lib.hid hb1
 have VB:=Lib.hid hre
 have EY:Hid (iZ bs=iZ bs):=Lib.hid rfl
 have xU:=Lib.hid (oz bs)
 clear hr hb1 hre hw1 hs1
 conv at EY=>arg 1;rhs;unfold iZ;dsimp only
 unfold iZ at xU
 dsimp only at xU
 go_enter Tryz.func155,Tryz.ntmps155
 go_wp2_with fail
 rw[show w.alloc (.cells #[.int .i64 0, .int .i64 0, .int .i64 0, .int .i64 0, .int .u64 0, .bool false] 98)=w1 from HW1.out.symm]
 (with_reducible refine HN.out.mono ?_)
 rintro e w2 ⟨x,rfl,hx,hR2,hb2⟩
 have HX:=Lib.hid hx
 have HR2:=Lib.hid hR2
 have HB2:=Lib.hid hb2
 clear hx hR2 hb2 HN
 obtain⟨D,hD⟩:∃D:Nat→Prop,D=fun b=>w1.heap.size≤b∧b<x:=⟨_,rfl⟩
 rw[←hD]at HR2
 clear hD
 have IC:=Lib.hid (mD HR2.out)
 obtain⟨v0,hv0⟩:∃v,v=(bQ (bs,0) 2).1:=⟨_,rfl⟩
 obtain⟨s0,hs0⟩:∃s,s=(bQ (bs,0) 2).2:=⟨_,rfl⟩
 rw[←hv0,←hs0]at IC
 rw[←hv0,←hs0]at EY
 rw[←hv0]at xU
 (try rw[←hs0]at xU)
 clear hv0 hs0
 go_wp2_with fail
 (with_reducible refine IC.out.mono ?_)
 rintro e w3 ⟨rfl,hR,hK⟩
 have HR3:=Lib.hid hR
 have HB3:=Lib.hid (HB2.out.trans (qg hK HX.out HB2.out.size))
 clear hR hK IC
 have QL:=Lib.hid (EW HR3.out)
 obtain⟨v1,hv1⟩:∃v,v=(bQ s0 1).1:=⟨_,rfl⟩
 obtain⟨s1,hs1⟩:∃s,s=(bQ s0 1).2:=⟨_,rfl⟩
 rw[←hv1,←hs1]at QL
 rw[←hv1,←hs1]at EY
 rw[←hv1]at xU
 (try rw[←hs1]at xU)
 clear hv1 hs1
 go_wp2_with fail
 (with_reducible refine QL.out.mono ?_)
 rintro e w4 ⟨rfl,hR,hK⟩
 have HR4:=Lib.hid hR
 have dX:=Lib.hid (HB3.out.trans (qg hK HX.out HB3.out.size))
 clear hR hK QL
 have KI:=Lib.hid (mD HR4.out)
 obtain⟨v2,hv2⟩:∃v,v=(bQ s1 2).1:=⟨_,rfl⟩
 obtain⟨s2,hs2⟩:∃s,s=(bQ s1 2).2:=⟨_,rfl⟩
 rw[←hv2,←hs2]at KI
 rw[←hv2,←hs2]at EY
 rw[←hv2]at xU
 (try rw[←hs2]at xU)
 clear hv2 hs2
 go_wp2_with fail
 (with_reducible refine KI.out.mono ?_)
 rintro e w5 ⟨rfl,hR,hK⟩
 have Rz:=Lib.hid hR
 have iR:=Lib.hid (dX.out.trans (qg hK HX.out dX.out.size))
 clear hR hK KI
 have Uj:=Lib.hid (mD Rz.out)
 obtain⟨v3,hv3⟩:∃v,v=(bQ s2 2).1:=⟨_,rfl⟩
 obtain⟨s3,hs3⟩:∃s,s=(bQ s2 2).2:=⟨_,rfl⟩
 rw[←hv3,←hs3]at Uj
 rw[←hv3,←hs3]at EY
 rw[←hv3]at xU
 (try rw[←hs3]at xU)
 clear hv3 hs3
 go_wp2_with fail
 (with_reducible refine Uj.out.mono ?_)
 rintro e w6 ⟨rfl,hR,hK⟩
 have wX:=Lib.hid hR
 have oM:=Lib.hid (iR.out.trans (qg hK HX.out iR.out.size))
 clear hR hK Uj
 have Pp:=Lib.hid (Ls wX.out)
 obtain⟨v4,hv4⟩:∃v,v=(bQ s3 8).1:=⟨_,rfl⟩
 obtain⟨s4,hs4⟩:∃s,s=(bQ s3 8).2:=⟨_,rfl⟩
 rw[←hv4,←hs4]at Pp
 rw[←hv4,←hs4]at EY
 rw[←hv4]at xU
 (try rw[←hs4]at xU)
 clear hv4 hs4
 go_wp2_with fail
 (with_reducible refine Pp.out.mono ?_)
 rintro e w7 ⟨rfl,hR,hK⟩
 have RA:=Lib.hid hR
 have qO:=Lib.hid (oM.out.trans (qg hK HX.out oM.out.size))
 clear hR hK Pp
 have Uk:=Lib.hid (Lv RA.out)
 obtain⟨v5,hv5⟩:∃v,v=(oP s4).1:=⟨_,rfl⟩
 obtain⟨s5,hs5⟩:∃s,s=(oP s4).2:=⟨_,rfl⟩
 rw[←hv5,←hs5]at Uk
 rw[←hv5,←hs5]at EY
 rw[←hv5]at xU
 (try rw[←hs5]at xU)
 clear hv5 hs5
 go_wp2_with fail
 (with_reducible refine Uk.out.mono ?_)
 rintro e w8 ⟨rfl,hR,hK⟩
 have KN:=Lib.hid hR
 have vD:=Lib.hid (qO.out.trans (qg hK HX.out qO.out.size))
 clear hR hK Uk
 obtain⟨N,hN⟩:∃N:EX,N=⟨v0,v1,v2,v3,v4,v5⟩:=⟨_,rfl⟩
 rw[←hN]at EY xU
 have qL:=Lib.hid hN
 clear hN
 have hsz:=vD.out.size
 obtain⟨w9,RB⟩:∃w9,w9=w8.alloc (.cells (OD N) 98):=⟨_,rfl⟩
 have qP:Below w8.heap.size w8 w9:=by rw[RB];exact wall w8 _
 have hnd:w9.heap[w8.heap.size]? =some (.cells (OD N) 98 (0,0)):=by rw[RB];exact(MapKept.heap_alloc w8 _).1
 have XW:Hid (w9=w8.alloc (.cells #[.int .i64 v0, .int .i64 v1, .int .i64 v2, .int .i64 v3, .int .u64 v4, .bool v5] 98)):=by rw[RB,qL.out];exact Lib.hid rfl
 have zx:=Lib.hid (vD.out.trans (qP.mono vD.out.size))
 have Lx:=Lib.hid ((zx.out.block _ (Array.getElem?_eq_some_iff.1 VB.out).1).trans VB.out)
 have HE:=Lib.hid (DR (KN.out.below qP (Nat.le_refl _)))
 have zT:=Lib.hid hnd
 obtain⟨z,hz⟩:∃z,z=nQ s5:=⟨_,rfl⟩
 rw[←hz]at HE
 have HZ:=Lib.hid hz
 clear RB qP hnd hz
 have qn:∀j,w9.cell? ⟨w8.heap.size,j,none⟩=(OD N)[j]? :=fun j=>fH zT.out j
 have q0:w9.cell? ⟨w8.heap.size,0,none⟩=some (.int .i64 v0):=by rw[qn,qL.out];rfl
 have q1:w9.cell? ⟨w8.heap.size,1,none⟩=some (.int .i64 v1):=by rw[qn,qL.out];rfl
 have q2:w9.cell? ⟨w8.heap.size,2,none⟩=some (.int .i64 v2):=by rw[qn,qL.out];rfl
 have q3:w9.cell? ⟨w8.heap.size,3,none⟩=some (.int .i64 v3):=by rw[qn,qL.out];rfl
 have q4:w9.cell? ⟨w8.heap.size,4,none⟩=some (.int .u64 v4):=by rw[qn,qL.out];rfl
 have q5:w9.cell? ⟨w8.heap.size,5,none⟩=some (.bool v5):=by rw[qn,qL.out];rfl
 clear qn
 have LA:Hid (∀w',Calls Tryz.prog 134 #[.agg #[.int .i64 v0, .int .i64 v1, .int .i64 v2, .int .i64 v3, .int .u64 v4, .bool v5]] w' fun e w''=>e= .returned (.bool (decide (iH N)))∧Below w'.heap.size w' w''):=fun w'=>by
  have:=DU N xU.out w'
  rw[qL.out]at this
  rw[qL.out]
  exact this
 have jS:=(Array.getElem?_eq_some_iff.1 zT.out).1
 have VD:=(Array.getElem?_eq_some_iff.1 Lx.out).1
 go_wp2_with fail
 rw[←XW.out]
 by_cases hz:z=0
 ·subst hz
  by_cases hr:iH N
  ·have HD:Hid (bW bs=(N,0)):=by
    show _=_
    unfold bW
    rw[EY.out,if_pos ⟨HZ.out.symm,hr⟩]
   rw[decide_eq_true hr]at LA
   clear hr EY
   (with_reducible refine HE.out.mono ?_)
   rintro e _ ⟨rfl,rfl⟩
   go_wp2_with fail
   (with_reducible refine(LA.out _).mono ?_)
   rintro e Dv ⟨rfl,kR⟩
   have JA:=Lib.hid ((kR.block _ VD).trans Lx.out)
   have qc:=Lib.hid (HB1.out.trans ((zx.out.trans (kR.mono zx.out.size)).mono HB1.out.size))
   have r0:Dv.cell? ⟨w8.heap.size,0,none⟩=some (.int .i64 v0):=(kR.cell (p:=⟨w8.heap.size,0,none⟩) jS).trans q0
   have r1:Dv.cell? ⟨w8.heap.size,1,none⟩=some (.int .i64 v1):=(kR.cell (p:=⟨w8.heap.size,1,none⟩) jS).trans q1
   have r2:Dv.cell? ⟨w8.heap.size,2,none⟩=some (.int .i64 v2):=(kR.cell (p:=⟨w8.heap.size,2,none⟩) jS).trans q2
   have r3:Dv.cell? ⟨w8.heap.size,3,none⟩=some (.int .i64 v3):=(kR.cell (p:=⟨w8.heap.size,3,none⟩) jS).trans q3
   have r4:Dv.cell? ⟨w8.heap.size,4,none⟩=some (.int .u64 v4):=(kR.cell (p:=⟨w8.heap.size,4,none⟩) jS).trans q4
   have r5:Dv.cell? ⟨w8.heap.size,5,none⟩=some (.bool v5):=(kR.cell (p:=⟨w8.heap.size,5,none⟩) jS).trans q5
   clear kR LA HE q0 q1 q2 q3 q4 q5
   go_wp2_with (refine ko (by rfl) 98 _ _ (by rfl) w.heap.size #[.int .i64 v0, .int .i64 v1, .int .i64 v2, .int .i64 v3, .int .u64 v4, .bool v5] (by rfl) (by rfl) _ JA.out sU rfl (by simp[Value.oneCell']) ?_;intro w_ Cm;have Cn:=Lib.hid Cm;clear Cm)
   refine xH rfl rfl rfl rfl Cn.out.1 rfl ?_
   rw[HD.out,qL.out]
   exact⟨rfl,Cn.out.below qc.out (Nat.le_refl _)⟩
  ·have HD:Hid (bW bs=(Jv,12)):=by
    show _=_
    unfold bW
    rw[EY.out,if_neg fun h=>hr h.2]
   rw[decide_eq_false hr]at LA
   clear hr EY
   (with_reducible refine HE.out.mono ?_)
   rintro e _ ⟨rfl,rfl⟩
   go_wp2_with fail
   (with_reducible refine(LA.out _).mono ?_)
   rintro e Dv ⟨rfl,kR⟩
   have JA:=Lib.hid ((kR.block _ VD).trans Lx.out)
   have qc:=Lib.hid (HB1.out.trans ((zx.out.trans (kR.mono zx.out.size)).mono HB1.out.size))
   clear kR LA HE q0 q1 q2 q3 q4 q5
   go_wp2_with (refine ko (by rfl) 98 _ _ (by rfl) w.heap.size zF (by rfl) (by rfl) _ JA.out sU rfl (by simp[zF,Value.oneCell']) ?_;intro w_ Cm;have Cn:=Lib.hid Cm;clear Cm)
   (try simp only[Exit.inBlock,Exit.then])
   refine xH rfl rfl rfl rfl Cn.out.1 rfl ?_
   rw[HD.out]
   exact⟨rfl,Cn.out.below qc.out (Nat.le_refl _)⟩
 ·have hz2:(z !=0)=true:=by simpa using hz
  have HD:Hid (bW bs=(Jv,12)):=by
   show _=_
   unfold bW
   rw[EY.out,if_neg fun h=>hz (HZ.out.trans h.1)]
  have qc:=Lib.hid (HB1.out.trans (zx.out.mono HB1.out.size))
  clear hz EY LA q0 q1 q2 q3 q4 q5
  (with_reducible refine HE.out.mono ?_)
  rintro e _ ⟨rfl,rfl⟩
  go_wp2_with (refine ko (by rfl) 98 _ _ (by rfl) w.heap.size zF (by rfl) (by rfl) _ Lx.out sU rfl (by simp[zF,Value.oneCell']) ?_;intro w_ Cm;have Cn:=Lib.hid Cm;clear Cm)
  (try simp only[Exit.inBlock,Exit.then])
  refine xH rfl rfl rfl rfl Cn.out.1 rfl ?_
  rw[HD.out]
  exact⟨rfl,Cn.out.below qc.out (Nat.le_refl _)⟩
def jP (T:aF) (id:Int):Nat→Int→List Nm→List (List Nm)
 |0,a,p=>if a=id then[p]else[]
 |n+1,a,p=>(if a=id then[p]else[])++(aO T a).flatMap fun e=>jP T id n e.2 (p++[e.1])
theorem oC {T:aF} {id:Int}:∀(n:Nat) (a:Int) (p q:List Nm),q∈jP T id n a p→∃s,q=p++s
 |0,a,p,q,h=>by
  unfold jP at h
  split at h
  ·simp only[List.mem_singleton]at h
   exact⟨[],by simp[h]⟩
  ·cases h
 |n+1,a,p,q,h=>by
  unfold jP at h
  rcases List.mem_append.1 h with h|h
  ·split at h
   ·simp only[List.mem_singleton]at h
    exact⟨[],by simp[h]⟩
   ·cases h
  ·obtain⟨e,_,he⟩:=List.mem_flatMap.1 h
   obtain⟨s,hs⟩:=oC n e.2 _ q he
   exact⟨e.1::s,by rw[hs];simp⟩
theorem uE {T:aF} (hT:dG T) {id:Int}:∀(n:Nat) (a:Int) (p q:List Nm),(aj a T).isSome=true→t_ T n a→(q∈jP T id n a p↔∃s,q=p++s∧aC T a s=(id,0))
 |0,a,p,q,ha,hs=>by
  unfold jP
  constructor
  ·intro h
   split at h
   ·rename_i he
    simp only[List.mem_singleton]at h
    exact⟨[],by simp[h],by simp[aC,he]⟩
   ·cases h
  ·rintro ⟨s,rfl,hl⟩
   cases s with
   |nil=>
    have:a=id:=congrArg Prod.fst hl
    rw[if_pos this]
    simp
   |cons m r=>
    obtain⟨x,k,hx,_,hn,_⟩:=lQ hl
    have h1:aO T a=[]:=hs
    rw[cB hx]at h1
    rw[h1]at hn
    cases hn
 |n+1,a,p,q,ha,hs=>by
  unfold jP
  rw[List.mem_append,List.mem_flatMap]
  constructor
  ·rintro (h|⟨e,he,h⟩)
   ·split at h
    ·rename_i he
     simp only[List.mem_singleton]at h
     exact⟨[],by simp[h],by simp[aC,he]⟩
    ·cases h
   ·obtain⟨x,hx,hm⟩:=mh he
    obtain⟨s,h1,h2⟩:=(uE hT n e.2 _ q (hT.leads a x hx e hm).1 (hs e he)).1 h
    refine⟨e.1::s,by rw[h1];simp,?_⟩
    unfold aC
    rw[hx]
    simp only
    rw[if_pos (jY hT hx hm),aY oU (hT.each a x hx).sorted hm]
    exact h2
  ·rintro ⟨s,rfl,hl⟩
   cases s with
   |nil=>
    have:a=id:=congrArg Prod.fst hl
    left
    rw[if_pos this]
    simp
   |cons m r=>
    obtain⟨x,k,hx,_,hn,hr⟩:=lQ hl
    have he:(m,k)∈aO T a:=by rw[cB hx];exact bR hn
    exact .inr ⟨(m,k),he,(uE hT n k _ _ (hT.leads a x hx _ (bR hn)).1 (hs _ he)).2 ⟨r,by simp,hr⟩⟩
theorem Aq {T:aF} (hT:dG T) (a:Int):(aO T a).Pairwise fun e e'=>e.1≠e'.1:=by
 unfold aO
 cases hx:aj a T with
 |none=>exact List.Pairwise.nil
 |some x=>exact(hT.each a x hx).sorted.apart oU
theorem u_ {T:aF} (hT:dG T) {id:Int}:∀(n:Nat) (a:Int) (p:List Nm),(jP T id n a p).Nodup
 |0,a,p=>by
  unfold jP
  split<;>simp
 |n+1,a,p=>by
  unfold jP
  rw[List.nodup_append]
  refine⟨by split<;>simp,?_,fun q hq q' hq'=> ?_⟩
  ·unfold List.Nodup
   rw[List.pairwise_flatMap]
   refine⟨fun e _=>u_ hT n e.2 _,(Aq hT a).imp fun{e e'} hne q hq q' hq' he=> ?_⟩
   obtain⟨s,h1⟩:=oC n e.2 _ q hq
   obtain⟨s',h2⟩:=oC n e'.2 _ q' hq'
   rw[h1,h2,List.append_assoc,List.append_assoc]at he
   have:=List.append_cancel_left he
   simp only[List.singleton_append,List.cons.injEq]at this
   exact hne this.1
  ·split at hq
   ·simp only[List.mem_singleton]at hq
    subst hq
    obtain⟨e,_,he⟩:=List.mem_flatMap.1 hq'
    obtain⟨s,h2⟩:=oC n e.2 _ q' he
    intro heq
    have:=congrArg List.length (heq.trans h2)
    simp at this
   ·cases hq
theorem zG {T:aF} {dep:Int→Nat} (hT:dG T) (hd:dY T dep):∀(n:Nat) (d:Int),dep d≤n→bq T d=2→∃q,aC T 0 q=(d,0)
 |n,d,hn,hk=>by
  by_cases h0:d=0
  ·exact⟨[],by rw[h0];rfl⟩
  ·obtain⟨x,hx,hxk⟩:=fG hk
   have hc:=hT.counts d x hx h0
   rw[((hT.each d x hx).dir hxk).1]at hc
   have hpos:0<fq T d:=by omega
   have:∃q∈T,0<cn d q.2:=by
    unfold fq at hpos
    cases hall:T.all (fun q=>cn d q.2==0)with
    |false=>
     rw[List.all_eq_false]at hall
     obtain⟨q,hq,h1⟩:=hall
     exact⟨q,hq,by simp at h1;omega⟩
    |true=>
     rw[List.all_eq_true]at hall
     have hz:(T.map fun q=>cn d q.2).sum=0:=by
      have:∀l:aF,(∀q∈l,cn d q.2=0)→(l.map fun q=>cn d q.2).sum=0:=by
       intro l
       induction l with
       |nil=>intro _;rfl
       |cons y r ih=>
        intro hh
        rw[List.map_cons,List.sum_cons,hh y (by simp),ih fun q hq=>hh q (by simp[hq])]
      exact this T fun q hq=>by simpa using hall q hq
     omega
   obtain⟨q,hq,hcq⟩:=this
   unfold cn at hcq
   rw[List.countP_pos_iff]at hcq
   obtain⟨e,he,hed⟩:=hcq
   simp only[decide_eq_true_eq]at hed
   have Pq:=aY dB hT.sorted hq
   have hup:=(hd.up q.1 q.2 Pq e he).2 (by rw[hed];exact hk)
   rw[hed]at hup
   match n,hn with
   |0,hn=>omega
   |n+1,hn=>
    obtain⟨p,hp⟩:=zG hT hd n q.1 (by omega) ((bI Pq).trans (jY hT Pq he))
    refine⟨p++[e.1],?_⟩
    rw[gM,hp,if_pos rfl]
    unfold aC
    rw[Pq]
    simp only
    rw[if_pos (jY hT Pq he),aY oU (hT.each _ _ Pq).sorted he]
    simp only
    rw[hed]
    rfl
open Classical in
noncomputable def Pt (T:aF) (d:Int):List Nm:=if h:∃q,aC T 0 q=(d,0)then h.choose else[]
theorem JB {T:aF} {d:Int} (h:∃q,aC T 0 q=(d,0)):aC T 0 (Pt T d)=(d,0):=by
 unfold Pt
 rw[dif_pos h]
 exact h.choose_spec
noncomputable def EZ (T:aF) (id:Int):List (List Nm):=T.flatMap fun d=>(d.2.names.filter fun e=>decide (e.2=id)).map fun e=>Pt T d.1++[e.1]
theorem Gt (T:aF) (id:Int):(EZ T id).length=fq T id:=by
 unfold EZ fq
 rw[List.length_flatMap]
 congr 1
 apply List.map_congr_left
 intro q _
 rw[List.length_map,cn,List.countP_eq_length_filter]
theorem xI {α:Type} [DecidableEq α]:∀{l m:List α},l.Nodup→m.Nodup→(∀a,a∈l↔a∈m)→l.Perm m
 |[],m,_,_,h=>by
  have:m=[]:=List.eq_nil_iff_forall_not_mem.2 fun a ha=>by have:=(h a).2 ha;cases this
  rw[this]
 |x::r,m,hl,hm,h=>by
  have hx:x∈m:=(h x).1 (by simp)
  obtain⟨h1,h2⟩:=List.nodup_cons.1 hl
  have hp:=List.perm_cons_erase hx
  refine List.Perm.trans (List.Perm.cons x (xI h2 (hm.erase x) fun a=> ?_)) hp.symm
  rw[hm.mem_erase_iff]
  constructor
  ·intro ha
   exact⟨fun e=>h1 (e▸ha),(h a).1 (by simp[ha])⟩
  ·rintro ⟨hne,ha⟩
   rcases List.mem_cons.1 ((h a).2 ha)with h3|h3
   ·exact absurd h3 hne
   ·exact h3
theorem Co {T:aF} (hO:fU T) {id:Int} (h0:id≠0):(jP T id 8 0 []).length=fq T id:=by
 obtain⟨hT,dep,hd⟩:=hO
 have hS:t_ T 8 0:=hd.Mk hT 0
 have Ar:∀d x,aj d T=some x→∀e∈x.names,aC T 0 (Pt T d)=(d,0):=fun d x hx e he=>JB (zG hT hd (dep d) d (Nat.le_refl _) ((bI hx).trans (jY hT hx he)))
 rw[←Gt]
 refine(xI (u_ hT 8 0 []) ?_ fun q=> ?_).length_eq
 ·unfold EZ List.Nodup
  rw[List.pairwise_flatMap]
  refine⟨fun d JR=> ?_,?_⟩
  ·rw[List.pairwise_map]
   have hs:=(hT.each _ _ (aY dB hT.sorted JR)).sorted.apart oU
   refine(List.Pairwise.filter _ hs).imp fun{e e'} hne he=>hne ?_
   have:=List.append_cancel_left he
   simpa using this
  ·refine(hT.sorted.apart dB).imp_of_mem fun{d d'} JR Ul hne q hq q' hq' he=> ?_
   obtain⟨e,he1,rfl⟩:=List.mem_map.1 hq
   obtain⟨e',he2,rfl⟩:=List.mem_map.1 hq'
   have hl:=congrArg List.dropLast he
   rw[List.dropLast_concat,List.dropLast_concat]at hl
   have h1:=Ar d.1 d.2 (aY dB hT.sorted JR) e (List.mem_filter.1 he1).1
   have h2:=Ar d'.1 d'.2 (aY dB hT.sorted Ul) e' (List.mem_filter.1 he2).1
   rw[hl,h2]at h1
   exact hne (congrArg Prod.fst h1).symm
 ·rw[uE hT 8 0 [] q (dU hT) hS]
  unfold EZ
  rw[List.mem_flatMap]
  constructor
  ·rintro ⟨s,Um,hl⟩
   rw[List.nil_append]at Um
   rw[←Um]at hl
   clear Um
   have hs:q≠[]:=fun e=>by
    rw[e]at hl
    exact h0 (congrArg Prod.fst hl).symm
   obtain⟨d,x,n,-,hl1,hx,hxk,hn,_,e1⟩:=bS hl hs
   have hmem:=bR hn
   have h2:=sj hT q.dropLast.length q.dropLast (Pt T d) d (Nat.le_refl _) hl1 (Ar d x hx _ hmem) ((bI hx).trans hxk)
   refine⟨(d,x),bR hx,List.mem_map.2 ⟨(n,id),List.mem_filter.2 ⟨hmem,by simp⟩,?_⟩⟩
   rw[e1,h2]
  ·rintro ⟨d,JR,hq⟩
   obtain⟨e,he,rfl⟩:=List.mem_map.1 hq
   obtain⟨hen,O_⟩:=List.mem_filter.1 he
   simp only[decide_eq_true_eq]at O_
   have hx:=aY dB hT.sorted JR
   refine⟨Pt T d.1++[e.1],rfl,?_⟩
   rw[gM,Ar d.1 d.2 hx e hen,if_pos rfl]
   unfold aC
   rw[hx]
   simp only
   rw[if_pos (jY hT hx hen),aY oU (hT.each _ _ hx).sorted hen]
   simp only
   rw[O_]
   rfl
def doneN (left:Nm→Bool) (l:List (Nm×Int)):List (Nm×Int):=l.filter fun e=> !left e.1
theorem rH {left:Nm→Bool} {k:Nm} {j:Int}:∀{l:List (Nm×Int)},l.Pairwise (fun e e'=>e.1≠e'.1)→(k,j)∈l→left k=true→(doneN (fun z=>left z&& !decide (z=k)) l).Perm (doneN left l++[(k,j)])
 |[],_,h,_=>by cases h
 |y::r,hp,h,hl=>by
  obtain⟨h1,h2⟩:=List.pairwise_cons.1 hp
  unfold doneN
  rw[List.filter_cons,List.filter_cons]
  rcases List.mem_cons.1 h with h3|h3
  ·subst h3
   have hr:r.filter (fun e=> !(left e.1&& !decide (e.1=k)))=r.filter fun e=> !left e.1:=by
    apply List.filter_congr
    intro e he
    have hne:e.1≠k:=fun hh=>h1 e he hh.symm
    simp[hne]
   rw[hr]
   simp only[decide_true,Bool.not_true,Bool.and_false,Bool.not_false,if_true,hl]
   rw[if_neg (by decide)]
   exact(List.perm_append_singleton _ _).symm
  ·have hne:y.1≠k:=h1 (k,j) h3
   have ih:=rH h2 h3 hl
   unfold doneN at ih
   have e1:(!(left y.1&& !decide (y.1=k)))= !left y.1:=by simp[hne]
   rw[e1]
   cases left y.1 with
   |true=>simpa using ih
   |false=>simpa using ih
theorem DW {left:Nm→Bool} {l:List (Nm×Int)} (h:∀e∈l,left e.1=true):doneN left l=[]:=by
 unfold doneN
 rw[List.filter_eq_nil_iff]
 intro e he
 simp[h e he]
theorem Gu {left:Nm→Bool} {l:List (Nm×Int)} (h:∀k,left k=false):doneN left l=l:=by
 unfold doneN
 rw[List.filter_eq_self]
 intro e _
 simp[h e.1]
end Go.Proofs.YtohpcppeajijnaaGreat
