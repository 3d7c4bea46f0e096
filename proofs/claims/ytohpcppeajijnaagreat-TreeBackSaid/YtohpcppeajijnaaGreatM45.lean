/- permafrostlaw11.played. Literal slices of texts. permafrostlaw11.known. Rows whose elements have more than one cell: append. Snapshots, as plain data; in memory. package snap: New, find. package sha: rotated words, loaded words. SHA-256, plainly, in numbers. package sha: turn. -/
import Derived.Test.YtohpcppeajijnaaGreatM32
import Derived.Test.YtohpcppeajijnaaGreatM13
import Derived.Test.YtohpcppeajijnaaGreatM11
import Derived.Test.YtohpcppeajijnaaGreatM33
import Derived.Test.YtohpcppeajijnaaGreatM36
import Derived.Test.YtohpcppeajijnaaGreatM37
import Derived.Test.YtohpcppeajijnaaGreatM10
import Derived.Test.YtohpcppeajijnaaGreatM30
import Derived.Test.YtohpcppeajijnaaGreatM20
import Derived.WalkLawsBesides
import Derived.BigQuiet
namespace Go.Proofs.YtohpcppeajijnaaGreat
open Go.ChangeShapes Go.WideShapes Go.ChangeAt Go.RowKit
set_option linter.unusedVariables false
set_option linter.unusedSimpArgs false
def sZ (W w:World) (t r:Nat) (wx:World):Prop:=∃T,BN W (fun x=>x<w.heap.size) wx t r T∧Below w.heap.size w wx
def OV (W w:World) (e:Ending) (w':World):Prop:=∃t r,e= .returned (.tuple #[ptr t,ptr r])∧sZ W w t r w'
theorem JK {W w w1 w2:World} (hw:Below W.heap.size W w) (h1:Below w.heap.size w w1) (h2:Below W.heap.size W w2) (hk:∀b,b<w.heap.size→w2.heap[b]? =w1.heap[b]?) (hs:w1.heap.size≤w2.heap.size):Below w.heap.size w w2:=
 ⟨h2.os.trans hw.os.symm,h2.tape.trans hw.tape.symm,h2.output.trans hw.output.symm,Nat.le_trans h1.size hs,fun b hb=>(hk b hb).trans (h1.block b hb)⟩
set_option maxRecDepth 100000 in
set_option maxHeartbeats 8000000 in
theorem D_ {W w:World} (a:Option Addr) (len cap:Nat) (hA:EL W a len) (hB:Below W.heap.size W w):Calls Tryz.prog 46 #[.slice a len cap] w (OV W w):=by
 have hlm:=hA.1
 unfold maxLen at hlm
 have HA:=Lib.hid hA
 have V8:=Lib.hid hB
 have hWw:=hB.size
 clear hA hB
 go_enter Tryz.func46,Tryz.ntmps46
 go_wp2_with fail
 (with_reducible refine(H_ W w V8.out).mono ?_)
 rintro e w1 ⟨t,rfl,hT1,hb1⟩
 have HT1:=Lib.hid hT1
 have HB1:=Lib.hid hb1
 clear hT1 hb1
 go_wp2_with fail
 (with_reducible refine(BX w1).mono ?_)
 rintro e w2 ⟨r,rfl,hR,hb2⟩
 have hs1:=HB1.out.size
 have hs2:=hb2.size
 have BQ:iK W (fun x=>x<w.heap.size) (fun x=>x<w.heap.size∨(w1.heap.size≤x∧x<w2.heap.size)) (fun x=>w1.heap.size≤x∧x<w2.heap.size) w2 t r kV:=by
  refine⟨HT1.out.zX hb2,hR,fun x hx=>⟨.inr hx,by have:=hx.1;omega⟩,fun x hx=>⟨.inl hx,fun hf=>by have:=hf.1;omega⟩,mQ.new⟩
 have HST:Hid (sZ W w t r w2):=⟨kV,⟨_,_,BQ⟩,HB1.out.trans (hb2.mono hs1)⟩
 clear hR hb2 BQ
 go_upto_block 0 with(fail)
 go_cut [6]from 9 to 29 (fun i wx=>sZ W w t r wx)
 case first=>
  go_wp2_with fail
  go_loopw [6] (fun i wr=>∃k:Nat,i= .int .i64 k∧k≤40∧sZ W w t r wr) (fun i _=>40-(intOf i).toNat)
  case atStart=>exact⟨0,rfl,by omega,HST.out⟩
  case round=>
   obtain⟨k,rfl,Yr,hP⟩:=hrel
   have HP:=Lib.hid hP
   clear hP
   by_cases hlt:k<len
   ·have hd1:decide (k<len)=true:=by simpa using hlt
    by_cases Zh:k<40
    ·obtain⟨g,off,rfl,hgw,hAk⟩:=HA.out.2 (by omega)
     obtain⟨x,ba,bn,bc,hx⟩:=hAk k hlt
     obtain⟨T,⟨P,F,BQ⟩,hbw⟩:=HP.out
     have hbW:=BQ.tree.below
     obtain⟨d0,d1,d2,d3,d4,d5,d6,d7,d8⟩:=hx.cells
     have c0:=(hbW.cell (p:=⟨g,off+k*9,none⟩) hgw).trans d0
     have c1:=(hbW.cell (p:=⟨g,off+k*9+1,none⟩) hgw).trans d1
     have c2:=(hbW.cell (p:=⟨g,off+k*9+2,none⟩) hgw).trans d2
     have c3:=(hbW.cell (p:=⟨g,off+k*9+3,none⟩) hgw).trans d3
     have c4:=(hbW.cell (p:=⟨g,off+k*9+4,none⟩) hgw).trans d4
     have c5:=(hbW.cell (p:=⟨g,off+k*9+5,none⟩) hgw).trans d5
     have c6:=(hbW.cell (p:=⟨g,off+k*9+6,none⟩) hgw).trans d6
     have c7:=(hbW.cell (p:=⟨g,off+k*9+7,none⟩) hgw).trans d7
     have c8:=(hbW.cell (p:=⟨g,off+k*9+8,none⟩) hgw).trans d8
     have J4:=Lib.hid (I9 x ba bn bc BQ hx.ok (hx.row.below hbW (Nat.le_refl _)) hx.cap hx.reach)
     have UW:=Lib.hid hbw
     unfold nN at J4
     have i0:(0:Int)≤(k:Int):=by omega
     have i1:(k:Int)<(len:Int):=by omega
     have i2:(k:Int)<40:=by omega
     have hd2:decide ((k:Int)<40)=true:=by simpa using i2
     clear hAk hx BQ hbW d0 d1 d2 d3 d4 d5 d6 d7 d8 hbw
     go_wp2_with fail
     (with_reducible refine J4.out.mono ?_)
     rintro e w3 ⟨rfl,T',V9,hkq,hsz,Ra⟩
     have Yt:Hid (sZ W w t r w3):=⟨T',V9,JK V8.out UW.out Ra hkq hsz⟩
     clear V9 hkq Ra
     go_wp2_with fail
     go_roundw
     case rel=>exact⟨k+1,by go_num,by omega,Yt.out⟩
     case measure=>simp[intOf];omega
    ·have hd2:decide ((k:Int)<40)=false:=by simp;omega
     go_wp2_with fail
     go_meet
     exact HP.out
   ·have hd1:decide (k<len)=false:=by simpa using hlt
    go_wp2_with fail
    go_meet
    exact HP.out
 case rest=>
  go_wp2_with fail
  go_ret2
  exact⟨t,r,rfl,hcut⟩
theorem tu {w:World} {vs:List Value} {ls:List Nm} {n:Nat} (t:TypeId) (h:vs=(ls.map strOf).map Value.string) (hn:vs.length=n) (hm:n≤1000) (hs:∀l∈ls,l.length≤1000):aH (fun b=>b=w.heap.size) (w.alloc (.cells vs.toArray t)) (some ⟨w.heap.size,0,none⟩) n (ls.map strOf):=by
 subst hn
 refine⟨?_,fun s hs'=> ?_⟩
 ·rw[←h]
  exact nY vs t (by unfold maxLen;omega)
 ·obtain⟨l,hl,rfl⟩:=List.mem_map.1 hs'
  rw[fF]
  have:=hs l hl
  unfold maxLen;omega
def UY:aF:=(cu kV [[97]] 2).2
def UZ:aF:=(cu UY [[97],[98]] 1).2
def Rb:aF:=(dz UZ [[97],[98]] [[99]]).2
theorem OW:(cu kV [[97]] 2).1=(1,0):=by kernel_rfl
theorem OX:(cu UY [[97],[98]] 1).1=(2,0):=by kernel_rfl
theorem OY:(dz UZ [[97],[98]] [[99]]).1=0:=by kernel_rfl
theorem JL:iI Rb 2= .agg #[.int .i64 2, .int .i64 1, .int .i64 2, .int .i64 0, .int .u64 0, .bool false]:=by kernel_rfl
theorem JM:(aj 2 Rb).isSome=true:=by kernel_rfl
theorem Ma:Rb.length=3:=by kernel_rfl
set_option maxRecDepth 100000 in
set_option maxHeartbeats 4000000 in
theorem vo (w:World):Calls Tryz.prog 35 #[] w fun e w'=>e= .returned (.bool true)∧Below w.heap.size w w':=by
 go_enter Tryz.func35,Tryz.ntmps35
 go_wp2_with fail
 (with_reducible refine(H_ w w (Below.refl _ _)).mono ?_)
 rintro e w1 ⟨p,rfl,hT1,hb1⟩
 have Cc:=Lib.hid (zY (hT1.grow (wall w1 (.cells #[.string ⟨#[97]⟩] 9))) (some ⟨w1.heap.size,0,none⟩) 1 1 [[97]] 2 (tu (w:=w1) (vs:=[.string ⟨#[97]⟩]) 9 rfl rfl (by simp) (by simp)) (Nat.le_refl _) (by omega))
 rw[OW]at Cc
 clear hT1 hb1
 go_wp2_with fail
 (with_reducible refine Cc.out.mono ?_)
 rintro e w2 ⟨rfl,Kg,hK2⟩
 have zW:=Lib.hid (zY (T:=UY) (Kg.grow (wall w2 (.cells #[.string ⟨#[97]⟩, .string ⟨#[98]⟩] 9))) (some ⟨w2.heap.size,0,none⟩) 2 2 [[97],[98]] 1 (tu (w:=w2) (vs:=[.string ⟨#[97]⟩, .string ⟨#[98]⟩]) 9 rfl rfl (by simp) (by simp)) (Nat.le_refl _) (by omega))
 rw[OX]at zW
 clear Kg hK2 Cc
 go_wp2_with fail
 (with_reducible refine zW.out.mono ?_)
 rintro e w3 ⟨rfl,Mj,hK3⟩
 have C_:=Lib.hid (Et (T:=UZ) (Mj.grow ((wall w3 (.cells #[.string ⟨#[97]⟩, .string ⟨#[98]⟩] 9)).alloc (by simp) (.cells #[.string ⟨#[99]⟩] 9))) (some ⟨w3.heap.size,0,none⟩) 2 2 [[97],[98]] (some ⟨w3.heap.size+1,0,none⟩) 1 1 [[99]]
  ((tu (w:=w3) (vs:=[.string ⟨#[97]⟩, .string ⟨#[98]⟩]) 9 rfl rfl (by simp) (by simp)).below (wall _ _) (Nat.le_refl _))
  (by
   have:=tu (w:=w3.alloc (.cells #[.string ⟨#[97]⟩, .string ⟨#[98]⟩] 9)) (vs:=[.string ⟨#[99]⟩]) (ls:=[[99]]) 9 rfl rfl (by simp) (by simp)
   rw[World.size_alloc]at this
   exact this) (Nat.le_refl _) (by omega))
 rw[OY]at C_
 clear Mj hK3 zW
 go_wp2_with fail
 (with_reducible refine C_.out.mono ?_)
 rintro e w4 ⟨rfl,pK,hK4⟩
 have HN:=Lib.hid (Eu (T:=Rb) pK 2 (by rfl))
 rw[JL,JM]at HN
 have rJ:=Lib.hid pK
 clear pK hK4 C_
 go_wp2_with fail
 (with_reducible refine HN.out.mono ?_)
 rintro e w5 ⟨rfl,hb5⟩
 have HC:=Lib.hid (fun w6 (hb:Below w4.heap.size w4 w6)=>Bd (T:=Rb) (rJ.out.grow hb))
 rw[Ma]at HC
 have iR:=Lib.hid hb5
 clear hb5 HN
 go_wp2_with fail
 (with_reducible refine(HC.out _ ?_).mono ?_)
 ·exact iR.out.trans ((wall _ _).mono iR.out.size)
 rintro e w6 ⟨rfl,rfl⟩
 go_wp2_with fail
 go_ret
 exact⟨rfl,rJ.out.below.trans ((iR.out.trans ((wall _ _).mono iR.out.size)).mono rJ.out.below.size)⟩
structure uJ where
 id:Int
 hash:List UInt8
 t:aF
structure RL where
 l:List uJ
 next:Int
 last:List UInt8
def tC (o:Mark) (w:World) (vs:List Value) (x:uJ):Prop:=
 ∃a c q,vs=[.int .i64 x.id, .slice a x.hash.length c,ptr q]∧x.hash.length≤c∧av (fun b=>o b=0∧b<w.heap.size) w a x.hash.length (x.hash.map bv)∧f_ o 0 w q x.t∧dG x.t
def gF (o:Mark) (w:World):List Value→List uJ→Prop
 |vs,[]=>vs=[]
 |vs,x::r=>∃v1 v2,vs=v1++v2∧tC o w v1 x∧gF o w v2 r
structure qj (o:Mark) (i:Nat) (w:World) (s:Nat) (S:RL):Prop where
 at_:∃v la lc vals,w.heap[s]? =some (.cells #[v, .int .i64 S.next, .slice la S.last.length lc] 150 (0,0))∧o s=i∧s<w.heap.size∧
  w.ownsRow 0 152 3 v S.l.length vals∧(∀b,v.ownBlock=some b→o b=i∧b≠s∧b<w.heap.size)∧gF o w vals S.l∧
  S.last.length≤lc∧av (fun b=>o b=0∧b<w.heap.size) w la S.last.length (S.last.map bv)
theorem tC.step {o o':Mark} {I:Nat→Prop} {w w':World} {vs:List Value} {x:uJ} (h:tC o w vs x) (hi:¬I 0) (hs:Step o I w o' w'):tC o' w' vs x:=by
 obtain⟨a,c,q,h1,h2,h3,h4,h5⟩:=h
 exact⟨a,c,q,h1,h2,h3.move hs.keep.size fun b hb hbw=>⟨⟨(hs.old b hb.2).trans hb.1,Nat.lt_of_lt_of_le hb.2 hs.keep.size⟩,hs.block hb.2 (by rw[hb.1];exact hi)⟩,h4.step hi hi hs,h5⟩
theorem gF.step {o o':Mark} {I:Nat→Prop} {w w':World} (hi:¬I 0) (hs:Step o I w o' w'):∀{vs:List Value} {l:List uJ},gF o w vs l→gF o' w' vs l
 |_,[],h=>h
 |_,x::r,⟨v1,v2,h1,h2,h3⟩=>⟨v1,v2,h1,h2.step hi hs,gF.step hi hs h3⟩
theorem tC.grow {o:Mark} {w w':World} {vs:List Value} {x:uJ} (h:tC o w vs x) (hb:Below w.heap.size w w'):tC o w' vs x:=by
 obtain⟨a,c,q,h1,h2,h3,h4,h5⟩:=h
 exact⟨a,c,q,h1,h2,h3.move hb.size fun b hb' hbw=>⟨⟨hb'.1,Nat.lt_of_lt_of_le hb'.2 hb.size⟩,hb.block b hbw⟩,h4.grow hb,h5⟩
theorem gF.grow {o:Mark} {w w':World} (hb:Below w.heap.size w w'):∀{vs:List Value} {l:List uJ},gF o w vs l→gF o w' vs l
 |_,[],h=>h
 |_,x::r,⟨v1,v2,h1,h2,h3⟩=>⟨v1,v2,h1,h2.grow hb,gF.grow hb h3⟩
theorem tC.len {o:Mark} {w:World} {vs:List Value} {x:uJ} (h:tC o w vs x):vs.length=3:=by
 obtain⟨a,c,q,h1,_⟩:=h
 rw[h1];rfl
theorem gF.len {o:Mark} {w:World}:∀{vs:List Value} {l:List uJ},gF o w vs l→vs.length=l.length*3
 |_,[],h=>by have h1:_=[]:=h;rw[h1];rfl
 |_,x::r,⟨v1,v2,h1,h2,h3⟩=>by
  rw[h1,List.length_append,h2.len,h3.len,List.length_cons]
  omega
theorem gF.append {o:Mark} {w:World}:∀{vs us:List Value} {l m:List uJ},gF o w vs l→gF o w us m→gF o w (vs++us) (l++m)
 |_,_,[],_,h,k=>by have h1:_=[]:=h;rw[h1];exact k
 |_,_,x::r,_,⟨v1,v2,h1,h2,h3⟩,k=>⟨v1,v2++_,by rw[h1,List.append_assoc],h2,h3.append k⟩
theorem gF.at_ {o:Mark} {w:World}:∀{vs:List Value} {l:List uJ} {k:Nat} {x:uJ},gF o w vs l→l[k]? =some x→∃a c q,vs[k*3]? =some (.int .i64 x.id)∧vs[k*3+1]? =some (.slice a x.hash.length c)∧vs[k*3+2]? =some (ptr q)∧x.hash.length≤c∧av (fun b=>o b=0∧b<w.heap.size) w a x.hash.length (x.hash.map bv)∧f_ o 0 w q x.t∧dG x.t
 |_,[],k,x,_,hx=>by simp at hx
 |_,y::r,0,x,⟨v1,v2,h1,h2,h3⟩,hx=>by
  have hyx:y=x:=Option.some.inj hx
  subst hyx
  obtain⟨a,c,q,e1,e2,e3,e4,e5⟩:=h2
  subst e1 h1
  exact⟨a,c,q,rfl,rfl,rfl,e2,e3,e4,e5⟩
 |_,y::r,k+1,x,⟨v1,v2,h1,h2,h3⟩,hx=>by
  obtain⟨a,c,q,e1,e2,e3,e4⟩:=gF.at_ h3 (k:=k) (x:=x) (by simpa using hx)
  have hl:=h2.len
  subst h1
  refine⟨a,c,q,?_,?_,?_,e4⟩
  ·rw[List.getElem?_append_right (by omega),←e1];congr 1;omega
  ·rw[List.getElem?_append_right (by omega),←e2];congr 1;omega
  ·rw[List.getElem?_append_right (by omega),←e3];congr 1;omega
theorem gF.take {o:Mark} {w:World}:∀{vs:List Value} {l:List uJ} (k:Nat),gF o w vs l→gF o w (vs.take (k*3)) (l.take k)
 |_,[],k,h=>by have h1:_=[]:=h;rw[h1];simp;exact rfl
 |_,y::r,0,_=>by simp;exact rfl
 |_,y::r,k+1,⟨v1,v2,h1,h2,h3⟩=>by
  subst h1
  have hl:=h2.len
  refine⟨v1,v2.take (k*3),?_,h2,h3.take k⟩
  rw[List.take_append,List.take_of_length_le (by omega)]
  congr 2
  omega
theorem qj.step {o o':Mark} {I:Nat→Prop} {j:Nat} {w w':World} {s:Nat} {S:RL} (h:qj o j w s S) (hi:¬I 0) (hj:¬I j) (hs:Step o I w o' w'):qj o' j w' s S:=by
 obtain⟨v,la,lc,vals,h1,h2,h3,h4,h5,h6,h7,h8⟩:=h.at_
 refine⟨v,la,lc,vals,(hs.block h3 (by rw[h2];exact hj)).trans h1,(hs.old s h3).trans h2,Nat.lt_of_lt_of_le h3 hs.keep.size,?_,fun b hb=> ?_,h6.step hi hs,h7,h8.move hs.keep.size fun b hb hbw=>⟨⟨(hs.old b hb.2).trans hb.1,Nat.lt_of_lt_of_le hb.2 hs.keep.size⟩,hs.block hb.2 (by rw[hb.1];exact hi)⟩⟩
 ·obtain⟨k1,k2⟩:=h4
  refine⟨k1,?_⟩
  rcases k2 with k2|⟨g,cap,cur,e1,e2,e3,e4⟩
  ·exact .inl k2
  ·have h9:=h5 g (by rw[e1];rfl)
   exact .inr ⟨g,cap,cur,e1,e2,(hs.block h9.2.2 (by rw[h9.1];exact hj)).trans e3,e4⟩
 ·obtain⟨k1,k2,k3⟩:=h5 b hb
  exact⟨(hs.old b k3).trans k1,k2,Nat.lt_of_lt_of_le k3 hs.keep.size⟩
section
variable {W w:World} {o:Mark} {i s:Nat} {S:RL}
theorem qj.grow (h:qj o i w s S) {w':World} (hM:Marks W o w) (hb:Below w.heap.size w w'):qj o i w' s S:=
 h.step (I:=fun _=>False) (fun h=>h) (fun h=>h) (Step.grow hM hb)
theorem qj.lt (h:qj o i w s S):s<w.heap.size:=by
 obtain⟨v,la,lc,vals,h1,h2,h3,h4,h5,h6,h7,h8⟩:=h.at_
 exact h3
end
structure RN where
 a:Int
 c:Int
 d:Int
 e:Int
 f:Int
 g:Int
 h:Int
 j:Int
def RN.list (s:RN):List Int:=[s.a,s.c,s.d,s.e,s.f,s.g,s.h,s.j]
def RN.of (h:List Int):RN:=⟨h.getD 0 0,h.getD 1 0,h.getD 2 0,h.getD 3 0,h.getD 4 0,h.getD 5 0,h.getD 6 0,h.getD 7 0⟩
end Go.Proofs.YtohpcppeajijnaaGreat
