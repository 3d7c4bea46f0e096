/- permafrost/permafrostbook.Same[int]: are two slices the same? permafrostlaw13: begin, known. permafrostlaw13.known. The reference's tree in memory; at, Node, entry. The reference: Node, entry. What chapter 7's reference says: Good, Within. The reference: right, look, Look, file. -/
import Derived.Test.YtjnhnlabpccgjaaGreatM01
import Derived.BigQuiet
import Derived.Deep.QuietTactic
import Derived.Test.YtjnhnlabpccgjaaGreatM22
import Derived.Test.YtjnhnlabpccgjaaGreatM16
import Derived.Test.YtjnhnlabpccgjaaGreatM18
namespace Go.Proofs.YtjnhnlabpccgjaaGreat
open Go.ChangeShapes Go.WideShapes Go.ChangeAt Go.RowKit
set_option linter.unusedVariables false
def Db (w:World) (r:Bool) (e:Ending) (w':World):Prop:=e= .returned (.bool r)∧∃q,w'=w.drewN q
theorem Hr {xs ys:List Int} {k:Nat} (hk:k<xs.length) (hk':k<ys.length) (h:xs.take k=ys.take k) (he:xs[k]=ys[k]):xs.take (k+1)=ys.take (k+1):=by
 rw[List.take_succ_eq_append_getElem hk,List.take_succ_eq_append_getElem hk',h,he]
set_option maxHeartbeats 1000000 in
theorem BU {S S':Nat→Prop} (a b:Option Addr) (ca cb:Nat) (xs ys:List Int) (w:World) (ha:ah S w a xs.length (xs.map (Value.int .i64))) (hb:ah S' w b ys.length (ys.map (Value.int .i64))):
  Calls Tryz.prog 9 #[.slice a xs.length ca, .slice b ys.length cb] w (Db w (decide (xs=ys))):=by
 have ha1:=ha.small
 have hb1:=hb.small
 unfold maxLen at ha1 hb1
 by_cases hl:xs.length=ys.length
 ·have e1:((xs.length:Int) !=(ys.length:Int))=false:=by simp[hl]
  obtain⟨n,hn⟩:∃n,n=xs.length:=⟨_,rfl⟩
  rw[←hn]at hl ha ha1 e1⊢
  rw[←hl]at hb hb1 e1⊢
  have HA:=Lib.hid ha
  have HB:=Lib.hid hb
  have HL:=Lib.hid hl
  have HN:=Lib.hid hn
  have e2:((n:Int) !=(n:Int))=false:=by simp
  clear ha hb hl hn e1 hb1
  go_enter Tryz.func9,Tryz.ntmps9
  go_wp2
  go_loopw [5] (fun i wr=>∃k q:Nat,k≤n∧i= .int .i64 k∧wr=w.drewN q∧Hid (xs.take k=ys.take k)) (fun i _=>n-(intOf i).toNat)
  case atStart=>exact⟨0,0,by omega,rfl,rfl,show _=_ by simp⟩
  case round=>
   obtain⟨k,q,hk,rfl,rfl,hT⟩:=hrel
   by_cases hlt:k<n
   ·obtain⟨b1,o1,rfl,_,_,hc1⟩:=HA.out.at_ (by omega)
    obtain⟨b2,o2,rfl,_,_,hc2⟩:=HB.out.at_ (by omega)
    have hx:k<xs.length:=by rw[←HN.out];exact hlt
    have hy:k<ys.length:=by rw[←HL.out];exact hlt
    have g1:w.cell? ⟨b1,o1+k,none⟩=some ((Value.int .i64) xs[k]):=by rw[hc1 k hlt,List.getElem?_map,List.getElem?_eq_getElem hx];rfl
    have g2:w.cell? ⟨b2,o2+k,none⟩=some ((Value.int .i64) ys[k]):=by rw[hc2 k hlt,List.getElem?_map,List.getElem?_eq_getElem hy];rfl
    have i0:(0:Int)≤(k:Int):=by omega
    have i1:(k:Int)<(n:Int):=by omega
    clear hc1 hc2
    have HX:=fun h=>Hr hx hy hT.out h
    by_cases heq:xs[k]=ys[k]
    ·have QE:=Lib.hid (HX heq)
     have e3:(xs[k] !=ys[k])=false:=by simp[heq]
     clear HX
     generalize xs[k]=x at g1 e3 heq
     generalize ys[k]=y at g2 e3 heq
     have Vy:=Lib.hid heq
     clear heq
     go_wp2
     go_quiet (fail)
     go_wp2
     go_roundw
     case rel=>exact⟨k+1,_,by omega,by go_num,rfl,QE⟩
     case measure=>simp[intOf];omega
    ·have hne:xs≠ys:=fun h=>heq (by subst h;rfl)
     have e3:(xs[k] !=ys[k])=true:=by simp;exact heq
     have iM:=Lib.hid hne
     clear HX hne
     generalize xs[k]=x at g1 e3 heq
     generalize ys[k]=y at g2 e3 heq
     have Vy:=Lib.hid heq
     clear heq
     go_wp2
     go_quiet (fail)
     go_wp2
     go_ret
     exact⟨iZ (by simp[iM.out]),_,World.drewN_drewN _ _ _⟩
   ·obtain rfl:k=n:=by omega
    have he:xs=ys:=by
     have:=hT.out
     rw[List.take_of_length_le (by rw[←HN.out];omega),List.take_of_length_le (by rw[←HL.out];omega)]at this
     exact this
    have HE:=Lib.hid he
    clear he
    go_wp2
    go_ret
    exact⟨iZ (by simp[HE.out]),_,rfl⟩
 ·have e1:((xs.length:Int) !=(ys.length:Int))=true:=by simp;omega
  have hne:xs≠ys:=fun h=>hl (by rw[h])
  have iM:=Lib.hid hne
  clear hne hl ha hb
  go_enter Tryz.func9,Tryz.ntmps9
  go_wp2
  go_ret
  exact⟨iZ (by simp[iM.out]),0,rfl⟩
theorem KX {S S':Nat→Prop} (a b:Option Addr) (n ca cb:Nat) (xs:List Int) (w:World) (ha:ah S w a n (xs.map (Value.int .i64))) (hb:ah S' w b n (xs.map (Value.int .i64))):
  Calls Tryz.prog 9 #[.slice a n ca, .slice b n cb] w (Db w true):=by
 have hl:xs.length=n:=by have:=ha.length;simpa using this
 subst hl
 have:=BU a b ca cb xs xs w ha hb
 rwa [show decide (xs=xs)=true by simp]at this
set_option linter.unusedSimpArgs false
theorem nE {S:jc} {T:aA} (h:S.l.length<8):∃x S',dI S T=((S.next,0),S')∧S'.l=S.l++[x]∧x.id=S.next∧x.t=bf T∧S'.next=S.next+1∧x.hash=S'.last∧S'.last=jR (S.last++bZ (bf T))∧S'.last.length=32:=by
 refine⟨⟨S.next,jR (S.last++bZ (bf T)),bf T⟩,_,by unfold dI;rw[if_neg (by omega)],rfl,rfl,rfl,rfl,rfl,rfl,rE _⟩
structure zF (W:World) (o:Mark) (w:World) (b s t:Nat) (S:jc) (T:aA):Prop where
 box:∃x y:Nat,w.heap[b]? =some (.cells #[ptr s,ptr t,ptr x,ptr y] 35 (0,0))
 own:o b=3
 low:b<w.heap.size
 marks:Marks W o w
 sn:jO o 1 w s S
 tr:fH o 2 w t T
 ok:eH T
 len:S.l.length≤8
 last:S.last.length≤64
 next:0≤S.next
section
variable {W w:World} {o:Mark} {b s t:Nat} {S:jc} {T:aA}
theorem zF.grow (h:zF W o w b s t S T) {w':World} (hb:Below w.heap.size w w'):zF W o w' b s t S T:=by
 obtain⟨x,y,hx⟩:=h.box
 exact⟨⟨x,y,(hb.block b h.low).trans hx⟩,h.own,Nat.lt_of_lt_of_le h.low hb.size,h.marks.step (I:=fun _=>False) (fun e=>e) (Step.grow h.marks hb),h.sn.grow h.marks hb,h.tr.grow hb,h.ok,h.len,h.last,h.next⟩
theorem zF.snaps (h:zF W o w b s t S T) {w':World} {o':Mark} {S':jc} (hs:Step o (fun k=>k=1) w o' w') (hS:jO o' 1 w' s S') (hl:S'.l.length≤8) (hl2:S'.last.length≤64) (hn:0≤S'.next):zF W o' w' b s t S' T:=by
 obtain⟨x,y,hx⟩:=h.box
 have h0:¬(fun k:Nat=>k=1) 0:=by simp
 exact⟨⟨x,y,(hs.block h.low (by rw[h.own];simp)).trans hx⟩,(hs.old b h.low).trans h.own,Nat.lt_of_lt_of_le h.low hs.keep.size,h.marks.step h0 hs,hS,h.tr.step h0 (by simp) hs,h.ok,hl,hl2,hn⟩
theorem zF.take (h:zF W o w b s t S T) (hn:S.next≤1000000000):Calls Tryz.prog 35 #[ptr s,ptr t] w fun e w'=>e= .returned (.tuple #[.int .i64 (dI S T).1.1, .int .i64 (dI S T).1.2])∧∃o',zF W o' w' b s t (dI S T).2 T:=by
 refine(rF h.sn h.tr h.marks (by omega) h.ok h.len h.last h.next hn).mono ?_
 rintro e w' ⟨rfl,o',hs,hS⟩
 refine⟨rfl,o',h.snaps hs hS ?_ ?_ ?_⟩
 all_goals
  by_cases hf:S.l.length<8
  ·obtain⟨x,S',e1,e2,e3,e4,e5,e6,e7,e8⟩:=nE (T:=T) hf
   have:=h.next
   rw[e1]
   first
    |(rw[e2,List.length_append];simp;omega)
    |(rw[e8];omega)
    |(rw[e5];omega)
  ·have e1:dI S T=((0,4),S):=by unfold dI;rw[if_pos (by omega)]
   rw[e1]
   first
    |exact h.len
    |exact h.last
    |exact h.next
theorem jJ.next {S S':jc} {id now er:Int} (h:jJ S id now er S'):S'.next=S.next∧S'.last=S.last∧S'.l.length≤S.l.length:=by
 rcases h with⟨_,rfl,_⟩|⟨k,x,hx,_,_,h⟩
 ·exact⟨rfl,rfl,Nat.le_refl _⟩
 ·rcases h with⟨_,_,rfl⟩|⟨_,_,rfl⟩
  ·exact⟨rfl,rfl,Nat.le_refl _⟩
  ·refine⟨rfl,rfl,?_⟩
   show(S.l.take k++S.l.drop (k+1)).length≤_
   rw[List.length_append,List.length_take,List.length_drop];omega
theorem zF.all (h:zF W o w b s t S T):Calls Tryz.prog 10 #[ptr s] w (pR w (allM S)):=yu h.sn (by have:=h.len;omega)
end
theorem EP (W w:World) (o:Mark) (hM:Marks W o w) (j:Nat) (hj:j≠0):Calls Tryz.prog 23 #[] w fun e w'=>∃p o',e= .returned (ptr p)∧Step o (fun k=>k=j) w o' w'∧fH o' j w' p ni∧Below w.heap.size w w':=by
 refine(Q0 w).mono ?_
 rintro e w' ⟨g,mb,ib,nb,p,rfl,hA,hg,hb⟩
 obtain⟨o',hs,h1,h2⟩:=jd hM j (fun b=>g b≠ .none) (w':=w') (fun b hb'=>⟨hg b hb',hA.low b hb'⟩) hb
 exact⟨p,o',rfl,hs,⟨g,_,mb,ib,nb,hA,fun b hb'=>h1 b hb',fun b hb'=>hb'.elim⟩,hb⟩
theorem KY:vV (bf ni) 0=false:=by kernel_rfl
theorem Dc {S S':jc} {er:Int} {x y:dX} (h:jJ S 1 0 er S') (hl:S.l=[x]++[y]) (hx:x.id=1) (ht:x.t=bf ni):er=0∧S'.l=[y]∧S'.next=S.next∧S'.last=S.last:=by
 rcases h with⟨_,_,hno⟩|⟨k,z,hz,hid,hno,h⟩
 ·exact absurd hx (hno x (by rw[hl];simp))
 ·rcases k with _|k
  ·have e1:x=z:=by rw[hl]at hz;simpa using hz
   subst e1
   rcases h with⟨hb,_⟩|⟨_,rfl,rfl⟩
   ·rw[ht,KY]at hb;cases hb
   ·exact⟨rfl,by show S.l.take 0++S.l.drop 1=[y];rw[hl];rfl,rfl,rfl⟩
  ·exact absurd hx (hno x (by rw[hl];simp))
set_option maxRecDepth 100000 in
set_option maxHeartbeats 8000000 in
theorem ER (w:World):Calls Tryz.prog 13 #[] w fun e w'=>e= .returned (.bool true)∧Below w.heap.size w w':=by
 have hM0:Marks w (fun _=>0) w:=⟨fun b hb=>absurd rfl hb,Below.refl _ _⟩
 have Uq:=Lib.hid hM0
 clear hM0
 have h0:¬(fun k:Nat=>k=1) 0:=by simp
 go_enter Tryz.func13,Tryz.ntmps13
 go_wp2_with fail
 (with_reducible refine(BO Uq.out 1 (by omega)).mono ?_)
 rintro e w1 ⟨s,o1,rfl,hs1,hS1,hb1⟩
 have vR:=Lib.hid (Uq.out.step (by simp) hs1)
 have pK:=Lib.hid hS1
 clear hs1 hS1 hb1 Uq
 go_wp2_with fail
 (with_reducible refine(EP w w1 o1 vR.out 2 (by omega)).mono ?_)
 rintro e w2 ⟨t,o2,rfl,hs2,TM,hb2⟩
 have wQ:=Lib.hid (vR.out.step (by simp) hs2)
 have HS2:=Lib.hid (pK.out.step (by simp) (by simp) hs2)
 have HT2:=Lib.hid TM
 obtain⟨x1,S1,e1,l1,id1,t1,n1,g1,_,q1⟩:=nE (S:=kN) (T:=ni) (by simp[kN])
 have hc1:Calls Tryz.prog 35 #[ptr s,ptr t] w2 fun e w'=>e= .returned (.tuple #[.int .i64 1, .int .i64 0])∧∃o',Step o2 (fun k=>k=1) w2 o' w'∧jO o' 1 w' s S1:=by
  have:=rF HS2.out HT2.out wQ.out (by omega) xW (by simp[kN]) (by simp[kN]) (by simp[kN]) (by simp[kN])
  rw[e1]at this
  exact this
 have Jr:=Lib.hid hc1
 have Df:=Lib.hid (show S1.l=[x1]from l1)
 have Vo:=Lib.hid (And.intro (show x1.id=1 from id1) t1)
 have Bf:=Lib.hid (show S1.next=2 from n1)
 have HQ1:=Lib.hid q1
 clear hs2 TM hb2 vR pK hc1 e1 l1 id1 t1 n1 g1 q1
 go_wp2_with fail
 (with_reducible refine Jr.out.mono ?_)
 rintro e w3 ⟨rfl,o3,hs3,hS3⟩
 have tF:=Lib.hid (wQ.out.step h0 hs3)
 have HT3:=Lib.hid (HT2.out.step h0 (by simp) hs3)
 have xG:=Lib.hid hS3
 obtain⟨x2,S2,e2,l2,id2,t2,n2,g2,_,q2⟩:=nE (S:=S1) (T:=ni) (by rw[Df.out];simp)
 have hc2:Calls Tryz.prog 35 #[ptr s,ptr t] w3 fun e w'=>e= .returned (.tuple #[.int .i64 2, .int .i64 0])∧∃o',Step o3 (fun k=>k=1) w3 o' w'∧jO o' 1 w' s S2:=by
  have:=rF xG.out HT3.out tF.out (by omega) xW (by rw[Df.out];simp) (by rw[HQ1.out];omega) (by rw[Bf.out];omega) (by rw[Bf.out];omega)
  rw[e2,Bf.out]at this
  exact this
 have DY:=Lib.hid hc2
 have HL2:=Lib.hid (show S2.l=[x1]++[x2]by rw[l2,Df.out])
 have QE:=Lib.hid (show x2.id=2 by rw[id2,Bf.out])
 have Ur:=Lib.hid (show S2.next=3 by rw[n2,Bf.out];rfl)
 have HQ2:=Lib.hid q2
 clear hs3 hS3 hc2 e2 l2 id2 t2 n2 g2 q2 wQ HT2 HS2 Jr
 go_wp2_with fail
 (with_reducible refine DY.out.mono ?_)
 rintro e w4 ⟨rfl,o4,hs4,hS4⟩
 have qD:=Lib.hid (tF.out.step h0 hs4)
 have yP:=Lib.hid (HT3.out.step h0 (by simp) hs4)
 have hf:=zD hS4 qD.out (by omega) (by rw[HL2.out];simp) 1 0
 have HF:=Lib.hid hf
 clear hs4 hS4 hf tF HT3 xG DY
 go_wp2_with fail
 (with_reducible refine HF.out.mono ?_)
 rintro e w5 ⟨er,S3,o5,rfl,hfr,hs5,hS5⟩
 obtain⟨rfl,l3,n3,q3⟩:=Dc hfr HL2.out Vo.out.1 Vo.out.2
 have DU:=Lib.hid (qD.out.step h0 hs5)
 have AO:=Lib.hid (yP.out.step h0 (by simp) hs5)
 obtain⟨x3,S4,e4,l4,id4,t4,n4,g4,_,q4⟩:=nE (S:=S3) (T:=ni) (by rw[l3];simp)
 have hc3:Calls Tryz.prog 35 #[ptr s,ptr t] w5 fun e w'=>e= .returned (.tuple #[.int .i64 3, .int .i64 0])∧∃o',Step o5 (fun k=>k=1) w5 o' w'∧jO o' 1 w' s S4:=by
  have:=rF hS5 AO.out DU.out (by omega) xW (by rw[l3];simp) (by rw[q3,HQ2.out];omega) (by rw[n3,Ur.out];omega) (by rw[n3,Ur.out];omega)
  rw[e4,n3,Ur.out]at this
  exact this
 have MQ:=Lib.hid hc3
 have MR:=Lib.hid (show allM S4=[2,3]by unfold allM;rw[l4,l3];simp[id4,QE.out,n3,Ur.out])
 have vH:=Lib.hid (show S4.l.length≤1000 by rw[l4,l3];simp)
 clear hfr hs5 hS5 hc3 e4 l4 id4 t4 n4 g4 q4 l3 n3 q3 qD yP HF
 go_wp2_with fail
 (with_reducible refine MQ.out.mono ?_)
 rintro e w6 ⟨rfl,o6,hs6,hS6⟩
 have ML:=Lib.hid (DU.out.step h0 hs6)
 have hal:=yu hS6 vH.out
 rw[MR.out]at hal
 have zG:=Lib.hid hal
 clear hs6 hS6 hal DU AO MQ
 go_wp2_with fail
 (with_reducible refine zG.out.mono ?_)
 rintro e w7 ⟨a,cap,he,hcap,hr,QI⟩
 have he:e= .returned (.slice a 2 cap):=he
 subst he
 have wS:=Lib.hid (QI.trans ((wall w7 (.cells #[.int .i64 2, .int .i64 3] 3)).mono QI.size))
 have hsm:Calls Tryz.prog 9 #[.slice a 2 cap, .slice (some ⟨w7.heap.size,0,none⟩) 2 2] (w7.alloc (.cells #[.int .i64 2, .int .i64 3] 3)) (Db (w7.alloc (.cells #[.int .i64 2, .int .i64 3] 3)) true):=
  BU a (some ⟨w7.heap.size,0,none⟩) cap 2 [2,3] [2,3] _ (hr.below (wall w7 _) (Nat.le_refl _)) (gH (w:=w7) [.int .i64 2, .int .i64 3] 3 (by simp[maxLen]))
 have XH:=Lib.hid hsm
 clear hr QI hsm zG
 go_wp2_with fail
 (with_reducible refine XH.out.mono ?_)
 rintro e w8 ⟨rfl,q,rfl⟩
 go_wp2_with fail
 go_ret
 have h8:=ML.out.below.trans (wS.out.mono ML.out.below.size)
 exact⟨rfl,⟨h8.os,h8.tape,h8.output,h8.size,h8.block⟩⟩
theorem flat_get {α β:Type} (f:α→List β) (k:Nat) (hk:∀x,(f x).length=k):∀(L:List α) (i j:Nat) (x:α),L[i]? =some x→j<k→(L.flatMap f)[i*k+j]? =(f x)[j]?
 |[],i,j,x,h,_=>by simp at h
 |y::r,0,j,x,h,hj=>by
  simp only[List.getElem?_cons_zero,Option.some.injEq]at h
  subst h
  rw[List.flatMap_cons,Nat.zero_mul,Nat.zero_add,List.getElem?_append_left (by rw[hk];exact hj)]
 |y::r,i+1,j,x,h,hj=>by
  rw[List.flatMap_cons,List.getElem?_append_right (by rw[hk,Nat.add_mul];omega),hk,show(i+1)*k+j-k=i*k+j by rw[Nat.add_mul];omega]
  exact flat_get f k hk r i j x (by simpa using h) hj
abbrev jm:=Int×Nm×Int
def b_ (q:Int×bq):List Value:=[.int .i64 q.1, .int .i64 q.2.kind, .int .i64 q.2.links, .int .i64 q.2.b.length, .int .u64 q.2.aP, .bool q.2.closed]
def eB (e:jm):List Value:=[.int .i64 e.1, .string (strOf e.2.1), .int .i64 e.2.2]
def jS (q:Int×bq):List jm:=q.2.names.map fun e=>(q.1,e.1,e.2)
def aS (T:aA):List jm:=T.flatMap jS
def BytesAt (F:Nat→Prop) (w:World) (a:Option Addr) (bs:List (List UInt8)):Prop:=
 ∃vs:List Value,ah F w a bs.length vs∧∀(i:Nat) (b:List UInt8),bs[i]? =some b→∃(a:Option Addr) (c:Nat),vs[i]? =some (.slice a b.length c)∧kV b.length c∧ah F w a b.length (b.map bv)
theorem BytesAt.move {F F':Nat→Prop} {w w':World} {a:Option Addr} {bs:List (List UInt8)} (h:BytesAt F w a bs) (hs:w.heap.size≤w'.heap.size) (hk:∀b,F b→b<w.heap.size→F' b∧w'.heap[b]? =w.heap[b]?):BytesAt F' w' a bs:=by
 obtain⟨vs,h1,h2⟩:=h
 refine⟨vs,h1.move hs hk,fun i b hb=> ?_⟩
 obtain⟨a,c,h3,h4,h5⟩:=h2 i b hb
 exact⟨a,c,h3,h4,h5.move hs hk⟩
def sl (a:Option Addr) (n c:Nat):Value:= .slice a n c
def Base (a:Option Addr) (c:Nat):Prop:=(a=none∧c=0)∨∃b,a=some ⟨b,0,none⟩
def Off (F:Nat→Prop) (r:Nat):Nat→Prop:=fun b=>F b∧b≠r
structure fJ (F:Nat→Prop) (w:World) (r:Nat) (T:aA) (D:List (List UInt8)) (E:List jm):Prop where
 head:∃aN cN aD cD aE cE,w.heap[r]? =some (.cells #[.slice aN T.length cN, .slice aD D.length cD, .slice aE E.length cE] 97 (0,0))∧T.length≤cN∧D.length≤cD∧E.length≤cE∧
  ah (Off F r) w aN (T.length*6) (T.flatMap b_)∧BytesAt (Off F r) w aD D∧ah (Off F r) w aE (E.length*3) (E.flatMap eB)∧Base aE cE
 own:F r
 low:∀b,F b→b<w.heap.size
abbrev kW (F:Nat→Prop) (w:World) (r:Nat) (T:aA):Prop:=fJ F w r T (T.map fun q=>q.2.b) (aS T)
theorem fJ.keeps {F fp:Nat→Prop} {w w':World} {r:Nat} {T:aA} {D:List (List UInt8)} {E:List jm} (h:fJ F w r T D E) (hK:Keeps fp w w') (hn:∀b,F b→¬fp b):fJ F w' r T D E:=by
 have hk:∀b,Off F r b→b<w.heap.size→Off F r b∧w'.heap[b]? =w.heap[b]? :=fun b hb hbw=>⟨hb,hK.block b hbw (hn b hb.1)⟩
 obtain⟨aN,cN,aD,cD,aE,cE,h1,h2,h3,h4,h8,h9,h10,h11⟩:=h.head
 exact⟨⟨aN,cN,aD,cD,aE,cE,(hK.block r (h.low r h.own) (hn r h.own)).trans h1,h2,h3,h4,h8.move hK.size hk,h9.move hK.size hk,h10.move hK.size hk,h11⟩,h.own,fun b hb=>Nat.lt_of_lt_of_le (h.low b hb) hK.size⟩
theorem fJ.below {F:Nat→Prop} {w w':World} {B r:Nat} {T:aA} {D:List (List UInt8)} {E:List jm} (h:fJ F w r T D E) (hb:Below B w w') (hB:w.heap.size≤B):fJ F w' r T D E:=
 h.keeps (fp:=fun x=>B≤x) (Keeps.below hb) fun x hx hf=>by have:=h.low x hx;omega
theorem fB (q:Int×bq):(b_ q).length=6:=rfl
theorem jE (e:jm):(eB e).length=3:=rfl
theorem ah.wide {α:Type} {F:Nat→Prop} {w:World} {a:Option Addr} {n k:Nat} {f:α→List Value} {L:List α} (h:ah F w a (n*k) (L.flatMap f)) (hk:∀x,(f x).length=k) (hn:L.length=n) {i:Nat} {x:α} (hx:L[i]? =some x) (hk0:0<k):
  ∃b off,a=some ⟨b,off,none⟩∧F b∧b<w.heap.size∧i<n∧∀j,j<k→w.cell? ⟨b,off+i*k+j,none⟩=(f x)[j]? :=by
 have hi:i<n:=by rw[←hn];exact(List.getElem?_eq_some_iff.1 hx).1
 have hik:i*k+k≤n*k:=by rw[←Nat.succ_mul];exact Nat.mul_le_mul_right k hi
 obtain⟨b,off,e,hF,hb,hc⟩:=h.at_ (by omega)
 refine⟨b,off,e,hF,hb,hi,fun j hj=> ?_⟩
 rw[Nat.add_assoc,hc (i*k+j) (by omega),flat_get f k hk L i j x hx hj]
section
variable {F:Nat→Prop} {r:Nat} {T:aA} {D:List (List UInt8)} {E:List jm}
def nT (id:Int) (q:Int×bq):Bool:=decide (q.1=id)
set_option maxHeartbeats 1000000 in
theorem uN (id:Int) (w:World) (h:fJ F w r T D E) (hl:T.length≤64):Calls Tryz.prog 75 #[ptr r, .int .i64 id] w fun e w'=>e= .returned (.int .i64 (oq (nT id) T))∧w=w':=by
 obtain⟨aN,cN,aD,cD,aE,cE,h1,-,-,-,hN,-,-,-⟩:=h.head
 have hr0:=h.low r h.own
 have hc0:w.cell? ⟨r,0,none⟩=some (.slice aN T.length cN):=by simp[World.cell?,h1]
 have HN:=Lib.hid hN
 obtain⟨n,hn⟩:∃n,n=T.length:=⟨_,rfl⟩
 rw[←hn]at hc0 hl HN
 have HL:=Lib.hid hn
 clear h h1 hN hn
 go_enter Tryz.func75,Tryz.ntmps75
 go_wp2
 go_loop [5] (fun i=>∃k:Nat,k≤n∧i= .int .i64 k∧(T.take k).any (nT id)=false) (fun i=>n-(intOf i).toNat)
 case atStart=>exact⟨0,by omega,rfl,by simp⟩
 case round=>
  obtain⟨k,hk,rfl,hany⟩:=hrel
  have HA:=Lib.hid hany
  clear hany
  by_cases hlt:k<n
  ·have hx:T[k]? =some (T[k]'(by have:=HL.out;omega)):=List.getElem?_eq_getElem _
   obtain⟨q,hq⟩:∃q,q=T[k]'(by have:=HL.out;omega):=⟨_,rfl⟩
   rw[←hq]at hx
   have HX:=Lib.hid hx
   obtain⟨b,off,rfl,hF,hb,hi,hc⟩:=HN.out.wide fB HL.out.symm hx (by omega)
   have c0:w.cell? ⟨b,off+k*6,none⟩=some (.int .i64 q.1):=hc 0 (by omega)
   clear hx hq hc
   have i0:(0:Int)≤k:=by omega
   have i1:(k:Int)<n:=by omega
   by_cases hp:q.1=id
   ·have hpp:(q.1==id)=true:=by simpa using hp
    have HP:Hid (nT id q=true):=by show nT id q=true;simp[nT,hp]
    clear hp
    go_wp2
    go_ret
    exact⟨gQ (vo HA.out HX.out HP.out).symm,rfl⟩
   ·have hpp:(q.1==id)=false:=by simpa using hp
    have HP:Hid (nT id q=false):=by show nT id q=false;simp[nT,hp]
    clear hp
    go_wp2
    go_round
    case rel=>exact⟨k+1,by omega,by go_num,any_take_succ HA.out HX.out HP.out⟩
    case measure=>simp[intOf];omega
  ·go_wp2
   go_ret
   exact⟨gQ (mQ (by have:=HA.out;rwa [List.take_of_length_le (by have:=HL.out;omega)]at this)).symm,rfl⟩
end
theorem zH {T:aA} {id:Int} (h:aj id T=none):oq (nT id) T= -1:=by
 refine mQ ?_
 rw[List.any_eq_false]
 intro q hq
 have:=f_.1 h q hq
 simpa[nT]using this
theorem lU {T:aA} (hs:aC fQ T) {id:Int} {x:bq} (h:aj id T=some x):∃k:Nat,oq (nT id) T=k∧T[k]? =some (id,x):=by
 cases hf:T.findIdx? (nT id)with
 |none=>
  rw[List.findIdx?_eq_none_iff]at hf
  have:=hf _ (bC h)
  simp[nT]at this
 |some k=>
  refine⟨k,by simp[oq,hf],?_⟩
  rw[List.findIdx?_eq_some_iff_getElem]at hf
  obtain⟨hk,hp,_⟩:=hf
  have h1:T[k]? =some T[k]:=List.getElem?_eq_getElem hk
  have h2:T[k].1=id:=by simpa[nT]using hp
  have h3:=aI bH hs (List.getElem_mem hk)
  rw[h2,h]at h3
  rw[h1]
  congr 1
  exact Prod.ext h2 (Option.some.inj h3).symm
def gy (d:Int) (n:Nm) (e:jm):Bool:=decide (e.1=d∧e.2.1=n)
section
variable {F:Nat→Prop} {r:Nat} {T:aA} {D:List (List UInt8)} {E:List jm}
theorem fJ.node {w:World} (h:fJ F w r T D E) {k:Nat} {q:Int×bq} (hq:T[k]? =some q):∃b off c,w.cell? ⟨r,0,none⟩=some (.slice (some ⟨b,off,none⟩) T.length c)∧Off F r b∧b<w.heap.size∧k<T.length∧w.cell? ⟨b,off+k*6,none⟩=some (.int .i64 q.1)∧w.cell? ⟨b,off+k*6+1,none⟩=some (.int .i64 q.2.kind)∧w.cell? ⟨b,off+k*6+2,none⟩=some (.int .i64 q.2.links)∧w.cell? ⟨b,off+k*6+3,none⟩=some (.int .i64 q.2.b.length)∧w.cell? ⟨b,off+k*6+4,none⟩=some (.int .u64 q.2.aP)∧w.cell? ⟨b,off+k*6+5,none⟩=some (.bool q.2.closed):=by
 obtain⟨aN,cN,aD,cD,aE,cE,h1,-,-,-,hN,-,-,-⟩:=h.head
 obtain⟨b,off,rfl,hF,hb,hi,hc⟩:=hN.wide fB rfl hq (by omega)
 exact⟨b,off,cN,by simp[World.cell?,h1],hF,hb,hi,hc 0 (by omega),hc 1 (by omega),hc 2 (by omega),hc 3 (by omega),hc 4 (by omega),hc 5 (by omega)⟩
theorem fJ.data {w:World} (h:fJ F w r T D E) {k:Nat} {d:List UInt8} (hq:D[k]? =some d):∃b off c a c',w.cell? ⟨r,1,none⟩=some (.slice (some ⟨b,off,none⟩) D.length c)∧Off F r b∧b<w.heap.size∧w.cell? ⟨b,off+k,none⟩=some (.slice a d.length c')∧kV d.length c'∧ah (Off F r) w a d.length (d.map bv):=by
 obtain⟨aN,cN,aD,cD,aE,cE,h1,-,-,-,-,hD,-,-⟩:=h.head
 obtain⟨vs,hv,hrow⟩:=hD
 have hk:k<D.length:=(List.getElem?_eq_some_iff.1 hq).1
 obtain⟨b,off,rfl,hF,hb,hc⟩:=hv.at_ (by omega)
 obtain⟨a,c',h3,h4,h5⟩:=hrow k d hq
 exact⟨b,off,cD,a,c',by simp[World.cell?,h1],hF,hb,by rw[hc k hk];exact h3,h4,h5⟩
theorem fJ.ent {w:World} (h:fJ F w r T D E):∃a c,w.cell? ⟨r,2,none⟩=some (.slice a E.length c)∧E.length≤c∧ah (Off F r) w a (E.length*3) (E.flatMap eB)∧Base a c:=by
 obtain⟨aN,cN,aD,cD,aE,cE,h1,-,-,h4,-,-,hE,hz⟩:=h.head
 exact⟨aE,cE,by simp[World.cell?,h1],h4,hE,hz⟩
theorem fJ.nodes {w:World} (h:fJ F w r T D E):∃a c,w.cell? ⟨r,0,none⟩=some (.slice a T.length c)∧T.length≤c:=by
 obtain⟨aN,cN,aD,cD,aE,cE,h1,h4,-,-,-,-,-,-⟩:=h.head
 exact⟨aN,cN,by simp[World.cell?,h1],h4⟩
set_option maxHeartbeats 1000000 in
theorem vW (id:Int) (w:World) (h:fJ F w r T D E) (hT:sJ T):Calls Tryz.prog 84 #[ptr r, .int .i64 id] w fun e w'=>e= .returned (.tuple #[qE T id, .bool (aj id T).isSome])∧Below w.heap.size w w':=by
 have hlen:=hT.len
 have HR:=Lib.hid (fun o=>uN id (w.alloc o) (h.below (wall w o) (Nat.le_refl _)) hlen)
 have hr0:=h.low r h.own
 unfold qE
 cases hx:aj id T with
 |none=>
  rw[zH hx]at HR
  clear h hx hT
  go_enter Tryz.func84,Tryz.ntmps84
  go_wp2_with fail
  (with_reducible refine(HR.out _).mono ?_)
  rintro e w1 ⟨rfl,rfl⟩
  go_wp2_with fail
  exact bodyPost_ret (v:= .tuple #[.agg #[.int .i64 0, .int .i64 0, .int .i64 0, .int .i64 0, .int .u64 0, .bool false], .bool false]) (by simp[results,Tryz.results84,go_sem]) rfl ⟨rfl,wall w _⟩
 |some x=>
  obtain⟨k,hk,hq⟩:=lU hT.sorted hx
  rw[hk]at HR
  obtain⟨b,off,c,hc0,hF,hb,hkl,c0,c1,c2,c3,c4,c5⟩:=h.node hq
  have i0:(0:Int)≤k:=by omega
  have i1:(k:Int)<T.length:=by omega
  have i2:¬(k:Int)<0:=by omega
  simp only at c0 c1 c2 c3 c4 c5
  clear h hx hk hq hT
  unfold mI
  go_enter Tryz.func84,Tryz.ntmps84
  go_wp2_with fail
  (with_reducible refine(HR.out _).mono ?_)
  rintro e w1 ⟨rfl,rfl⟩
  go_wp2_with fail
  exact bodyPost_ret (v:= .tuple #[.agg #[.int .i64 id, .int .i64 x.kind, .int .i64 x.links, .int .i64 x.b.length, .int .u64 x.aP, .bool x.closed], .bool true]) (by simp[results,Tryz.results84,go_sem]) rfl ⟨rfl,wall w _⟩
set_option maxHeartbeats 1000000 in
theorem pX (d:Int) (nm:Nm) (w:World) (h:fJ F w r T D E) (hl:E.length≤1000000):Calls Tryz.prog 74 #[ptr r, .int .i64 d, .string (strOf nm)] w fun e w'=>e= .returned (.int .i64 (oq (gy d nm) E))∧w=w':=by
 obtain⟨aE,cE,hc0,-,hE,-⟩:=h.ent
 have hr0:=h.low r h.own
 have HN:=Lib.hid hE
 obtain⟨n,hn⟩:∃n,n=E.length:=⟨_,rfl⟩
 rw[←hn]at hc0 hl HN
 have HL:=Lib.hid hn
 clear h hE hn
 go_enter Tryz.func74,Tryz.ntmps74
 go_wp2
 go_loop [7] (fun i=>∃k:Nat,k≤n∧i= .int .i64 k∧(E.take k).any (gy d nm)=false) (fun i=>n-(intOf i).toNat)
 case atStart=>exact⟨0,by omega,rfl,by simp⟩
 case round=>
  obtain⟨k,hk,rfl,hany⟩:=hrel
  have HA:=Lib.hid hany
  clear hany
  by_cases hlt:k<n
  ·have hx:E[k]? =some (E[k]'(by have:=HL.out;omega)):=List.getElem?_eq_getElem _
   obtain⟨q,hq⟩:∃q,q=E[k]'(by have:=HL.out;omega):=⟨_,rfl⟩
   rw[←hq]at hx
   have HX:=Lib.hid hx
   obtain⟨b,off,rfl,hF,hb,hi,hc⟩:=HN.out.wide jE HL.out.symm hx (by omega)
   have c0:w.cell? ⟨b,off+k*3,none⟩=some (.int .i64 q.1):=hc 0 (by omega)
   have c1:w.cell? ⟨b,off+k*3+1,none⟩=some (.string (strOf q.2.1)):=hc 1 (by omega)
   clear hx hq hc
   have i0:(0:Int)≤k:=by omega
   have i1:(k:Int)<n:=by omega
   by_cases hp:q.1=d
   ·have hpp:(q.1==d)=true:=by simpa using hp
    by_cases hp2:q.2.1=nm
    ·have HP:Hid (gy d nm q=true):=by show gy d nm q=true;simp[gy,hp,hp2]
     rw[hp2]at c1
     clear hp hp2
     go_wp2
     go_ret
     exact⟨gQ (vo HA.out HX.out HP.out).symm,rfl⟩
    ·have HP:Hid (gy d nm q=false):=by show gy d nm q=false;simp[gy,hp,hp2]
     obtain⟨hs1,hs2⟩:=D7 hp2
     clear hp hp2
     go_wp2
     go_round
     case rel=>exact⟨k+1,by omega,by go_num,any_take_succ HA.out HX.out HP.out⟩
     case measure=>simp[intOf];omega
   ·have hpp:(q.1==d)=false:=by simpa using hp
    have HP:Hid (gy d nm q=false):=by show gy d nm q=false;simp[gy,hp]
    clear hp
    go_wp2
    go_round
    case rel=>exact⟨k+1,by omega,by go_num,any_take_succ HA.out HX.out HP.out⟩
    case measure=>simp[intOf];omega
  ·go_wp2
   go_ret
   exact⟨gQ (mQ (by have:=HA.out;rwa [List.take_of_length_le (by have:=HL.out;omega)]at this)).symm,rfl⟩
end
theorem OL (s:ByteArray) (k:Nat) (h:k<s.size):s[k]=s.data.toList.getD k 0:=by
 have h2:k<s.data.toList.length:=by simpa using h
 simp only[List.getD,List.getElem?_eq_getElem h2,Option.getD_some]
 rfl
set_option maxHeartbeats 1000000 in
theorem KZ (s:ByteArray) (w:World) (hs:s.size≤maxLen):
  Calls Tryz.prog 136 #[.string s] w fun e w'=>e= .returned (.bool (bV s.data.toList))∧Below w.heap.size w w':=by
 unfold maxLen at hs
 have hb:=Below.refl w.heap.size w
 go_enter Tryz.func136,Tryz.ntmps136
 go_wp2
 go_loop [3] (fun i=>∃k:Nat,k≤s.size∧i= .int .i64 k∧(s.data.toList.take k).all gM=true) (fun i=>s.size-(intOf i).toNat)
 case atStart=>exact⟨0,by omega,rfl,rfl⟩
 case round=>
  obtain⟨k,hk,rfl,ha⟩:=hrel
  have HA:=Lib.hid ha
  clear ha
  by_cases hlt:k<s.size
  ·obtain⟨c,hcc⟩:∃c,c=s.data.toList.getD k 0:=⟨_,rfl⟩
   have hix:=OL s k hlt
   rw[←hcc]at hix
   have hsn:=D8 gM s.data.toList k (by simpa using hlt)
   rw[←hcc]at hsn
   have HS:=Lib.hid hsn
   have HG:Hid (gM c=false→bV s.data.toList=false):=fun h=>by
    have:=D9 gM s.data.toList k (by simpa using hlt)
    rw[←hcc]at this
    simp[bV,this h]
   clear hsn hcc
   have hbd:=I7 c
   rcases I6 c with⟨ho,h1,h2⟩|⟨ho,h1,h2,h3⟩|⟨ho,h1⟩|⟨ho,h1⟩|⟨ho,h1⟩|⟨ho,h1,h2,h3,h4,h5,h6⟩|⟨ho,h1,h2,h3,h4,h5,h6⟩|⟨ho,h1,h2,h3,h4,h5⟩
   iterate 5
    ·have HO:=Lib.hid ho
     clear ho HG
     go_wp2
     go_round
     case rel=>exact⟨k+1,by omega,by go_num,by rw[HS.out,HA.out,HO.out];rfl⟩
     case measure=>simp[intOf];omega
   iterate 3
    ·have HO:=Lib.hid ho
     clear ho
     go_wp2
     go_ret
     exact⟨iZ (HG.out HO.out).symm,hb⟩
  ·have hk':k=s.size:=by omega
   have HA2:s.data.toList.all gM=true:=by
    have:=HA.out
    rw[hk',List.take_of_length_le (by simp)]at this
    exact this
   have hl:s.data.toList.length=s.size:=by simp
   have he:=ByteArray.toList_eq s
   have ways:(s.toList=[]∧s.toList.isEmpty=true∧bV s.data.toList=false)∨
     (¬s.toList=[]∧s.toList.isEmpty=false∧16<s.size∧bV s.data.toList=false)∨
     (¬s.toList=[]∧s.toList.isEmpty=false∧s.size≤16∧s.toList=[46]∧(s.toList==[46])=true∧bV s.data.toList=false)∨
     (¬s.toList=[]∧s.toList.isEmpty=false∧s.size≤16∧¬s.toList=[46]∧(s.toList==[46])=false∧s.toList=[46,46]∧(s.toList==[46,46])=true∧bV s.data.toList=false)∨
     (¬s.toList=[]∧s.toList.isEmpty=false∧s.size≤16∧¬s.toList=[46]∧(s.toList==[46])=false∧¬s.toList=[46,46]∧(s.toList==[46,46])=false∧bV s.data.toList=true):=by
    rw[he]
    generalize s.data.toList=l at HA2 hl
    rw[←hl]
    exact Bt l HA2
   have hz1:Hid (s.toList=[]→s.size<1):=fun h=>by rw[he]at h;rw[h]at hl;simp at hl;omega
   have hz2:Hid (¬s.toList=[]→1≤s.size):=fun h=>by
    rw[he]at h
    have:=List.length_pos_iff.2 h
    omega
   clear HA2 hl he HA hk'
   rcases ways with⟨h1,h2,hg⟩|⟨h1,h2,h3,hg⟩|⟨h1,h2,h3,h4,h5,hg⟩|⟨h1,h2,h3,h4,h5,h6,h7,hg⟩|⟨h1,h2,h3,h4,h5,h6,h7,hg⟩
   ·have hz:=hz1.out h1
    have HG:=Lib.hid hg
    clear hg
    go_wp2
    go_ret
    exact⟨iZ HG.out.symm,hb⟩
   all_goals
    have hz:=hz2.out h1
    have HG:=Lib.hid hg
    clear hg
    go_wp2
    go_ret
    exact⟨iZ HG.out.symm,hb⟩
theorem lV {T:aA} (hs:aC fQ T) {e:jm}:e∈aS T↔∃x,aj e.1 T=some x∧e.2∈x.names:=by
 unfold aS
 rw[List.mem_flatMap]
 constructor
 ·rintro ⟨q,hq,he⟩
  obtain⟨y,hy,rfl⟩:=List.mem_map.1 he
  exact⟨q.2,aI bH hs hq,hy⟩
 ·rintro ⟨x,hx,he⟩
  exact⟨(e.1,x),bC hx,List.mem_map.2 ⟨e.2,he,rfl⟩⟩
theorem ES {T:aA} (hs:aC fQ T) {id:Int} {x:bq} {nm:Nm} (hx:aj id T=some x) (hn:aj nm x.names=none):oq (gy id nm) (aS T)= -1:=by
 refine mQ ?_
 rw[List.any_eq_false]
 intro e he h
 obtain⟨y,hy,hm⟩:=(lV hs).1 he
 simp only[gy,decide_eq_true_eq]at h
 rw[h.1,hx]at hy
 cases hy
 exact f_.1 hn _ hm h.2
theorem ET {T:aA} (hT:sJ T) {id j:Int} {x:bq} {nm:Nm} (hx:aj id T=some x) (hn:aj nm x.names=some j):∃k:Nat,oq (gy id nm) (aS T)=k∧(aS T)[k]? =some (id,nm,j):=by
 have hmem:((id,nm,j):jm)∈aS T:=(lV hT.sorted).2 ⟨x,hx,bC hn⟩
 cases hf:(aS T).findIdx? (gy id nm)with
 |none=>
  rw[List.findIdx?_eq_none_iff]at hf
  have:=hf _ hmem
  simp[gy]at this
 |some k=>
  refine⟨k,by simp[oq,hf],?_⟩
  rw[List.findIdx?_eq_some_iff_getElem]at hf
  obtain⟨hk,hp,_⟩:=hf
  have h1:(aS T)[k]? =some (aS T)[k]:=List.getElem?_eq_getElem hk
  obtain⟨e,he⟩:∃e,e=(aS T)[k]:=⟨_,rfl⟩
  have hm:=List.getElem_mem hk
  rw[←he]at h1 hp hm
  simp only[gy,decide_eq_true_eq]at hp
  obtain⟨y,hy,hm2⟩:=(lV hT.sorted).1 hm
  rw[hp.1,hx]at hy
  cases hy
  have h3:=aI qK (hT.each id x hx).sorted hm2
  rw[hp.2,hn]at h3
  rw[h1]
  congr 1
  exact Prod.ext hp.1 (Prod.ext hp.2 (Option.some.inj h3).symm)
theorem zI {S:Nat→Prop} {w:World} {a:Option Addr} {n:Nat} {ls:List Nm} (h:bB S w a n (ls.map strOf)) (k:Nat) (hk:k<n):∃b off nm,a=some ⟨b,off,none⟩∧S b∧b<w.heap.size∧ls[k]? =some nm∧nm.length≤maxLen∧w.cell? ⟨b,off+k,none⟩=some (.string (strOf nm)):=by
 obtain⟨b,off,s,e,hS,hb,hs,hsz,hc⟩:=h.cell k hk
 rw[List.getElem?_map]at hs
 cases hq:ls[k]? with
 |none=>rw[hq]at hs;cases hs
 |some nm=>
  rw[hq]at hs
  have:strOf nm=s:=by simpa using hs
  subst this
  rw[iF]at hsz
  exact⟨b,off,nm,e,hS,hb,rfl,hsz,hc⟩
theorem K3 {ls:List Nm} (h:ls.any (fun x=> !bV x)=true):dA ls=12:=by unfold dA;rw[if_pos h]
theorem OM {ls:List Nm} (h:ls.any (fun x=> !bV x)=false):dA ls=if 8<ls.length then 3 else 0:=by unfold dA;rw[if_neg (by rw[h];decide)]
set_option maxHeartbeats 1000000 in
theorem zJ {S:Nat→Prop} (a:Option Addr) (n c:Nat) (ls:List Nm) (w:World) (hS:bB S w a n (ls.map strOf)):
  Calls Tryz.prog 72 #[.slice a n c] w fun e w'=>e= .returned (.int .i64 (dA ls))∧Below w.heap.size w w':=by
 have hln:ls.length=n:=by have:=hS.length;simpa using this
 have hnm:=hS.row.small
 unfold maxLen at hnm
 have HS:=Lib.hid (fun w1 (hb:Below w.heap.size w w1)=>hS.below hb (Nat.le_refl _))
 have HL:=Lib.hid hln
 clear hS hln
 go_enter Tryz.func72,Tryz.ntmps72
 go_wp2
 go_loopw [3] (fun i wr=>∃k:Nat,k≤n∧i= .int .i64 k∧(ls.take k).any (fun x=> !bV x)=false∧Below w.heap.size w wr) (fun i _=>n-(intOf i).toNat)
 case atStart=>exact⟨0,by omega,rfl,by simp,Below.refl _ _⟩
 case round=>
  obtain⟨k,hk,rfl,hany,hB⟩:=hrel
  have HA:=Lib.hid hany
  have HB:=Lib.hid hB
  clear hany hB
  by_cases hlt:k<n
  ·obtain⟨b,off,nm,rfl,_,hbw,hx,hsz,hc⟩:=zI (HS.out wr HB.out) k hlt
   have HX:=Lib.hid hx
   have HG:=Lib.hid (KZ (strOf nm) wr (by rw[iF];exact hsz))
   have e0:(strOf nm).data.toList=nm:=by simp[strOf]
   rw[e0]at HG
   clear hx hsz e0
   have i0:(0:Int)≤k:=by omega
   have i1:(k:Int)<n:=by omega
   cases hp:bV nm with
   |true=>
    rw[hp]at HG
    have HP:Hid ((fun x:Nm=> !bV x) nm=false):=by show(!bV nm)=false;rw[hp];rfl
    clear hp
    go_wp2_with fail
    (with_reducible refine HG.out.mono ?_)
    rintro e w1 ⟨rfl,hb1⟩
    go_wp2_with fail
    go_roundw
    case rel=>exact⟨k+1,by omega,by go_num,any_take_succ HA.out HX.out HP.out,HB.out.trans (hb1.mono HB.out.size)⟩
    case measure=>simp[intOf];omega
   |false=>
    rw[hp]at HG
    have HP:Hid (ls.any (fun x=> !bV x)=true):=by
     show ls.any _=true
     rw[List.any_eq_true]
     exact⟨nm,List.mem_of_getElem? HX.out,by rw[hp];rfl⟩
    clear hp
    go_wp2_with fail
    (with_reducible refine HG.out.mono ?_)
    rintro e w1 ⟨rfl,hb1⟩
    go_wp2_with fail
    go_ret
    exact⟨gQ (K3 HP.out).symm,HB.out.trans (hb1.mono HB.out.size)⟩
  ·have HF:Hid (dA ls=if 8<n then 3 else 0):=by
    have:=HA.out
    rw[List.take_of_length_le (by have:=HL.out;omega)]at this
    have h2:=OM this
    rw[HL.out]at h2
    exact h2
   by_cases h8:8<n
   ·have hd:decide ((8:Int)<(n:Int))=true:=by simp only[decide_eq_true_eq];omega
    rw[if_pos h8]at HF
    clear h8
    go_wp2
    go_ret
    exact⟨gQ HF.out.symm,HB.out⟩
   ·have hd:decide ((8:Int)<(n:Int))=false:=by simp only[decide_eq_false_iff_not];omega
    rw[if_neg h8]at HF
    clear h8
    go_wp2
    go_ret
    exact⟨gQ HF.out.symm,HB.out⟩
section
variable {F:Nat→Prop} {r:Nat} {T:aA}
set_option maxHeartbeats 2000000 in
theorem BX {S:Nat→Prop} (a:Option Addr) (n c:Nat) (ls:List Nm) (w:World) (h:kW F w r T) (hT:eH T) (hE:(aS T).length≤1000000) (hS:bB S w a n (ls.map strOf)):
  Calls Tryz.prog 137 #[ptr r, .slice a n c] w fun e w'=>e= .returned (.tuple #[.int .i64 (aL T 0 ls).1, .int .i64 (aL T 0 ls).2])∧Below w.heap.size w w':=by
 have hln:ls.length=n:=by have:=hS.length;simpa using this
 have hnm:=hS.row.small
 unfold maxLen at hnm
 have HS:=Lib.hid (fun w1 (hb:Below w.heap.size w w1)=>hS.below hb (Nat.le_refl _))
 have HH:=Lib.hid (fun w1 (hb:Below w.heap.size w w1)=>h.below hb (Nat.le_refl _))
 have hr0:=h.low r h.own
 have HT:=Lib.hid hT
 have HL:=Lib.hid hln
 have HE:=Lib.hid hE
 clear hS hln h hT hE
 go_enter Tryz.func137,Tryz.ntmps137
 go_wp2
 go_loopw [6,7] (fun s i wr=>∃(k:Nat) (id:Int),k≤n∧i= .int .i64 k∧s= .int .i64 id∧(aj id T).isSome=true∧aL T id (ls.drop k)=aL T 0 ls∧Below w.heap.size w wr) (fun _ i _=>n-(intOf i).toNat)
 case atStart=>exact⟨0,0,by omega,rfl,rfl,iG HT.out,by simp,Below.refl _ _⟩
 case round=>
  obtain⟨k,id,hk,rfl,rfl,hid,hlk,hB⟩:=hrel
  obtain⟨x,hx⟩:=Option.isSome_iff_exists.1 hid
  have uq:=Lib.hid hlk
  have HX:=Lib.hid hx
  have HB:=Lib.hid hB
  have HSZ:=Lib.hid hB.size
  clear hlk hid hx hB
  by_cases hlt:k<n
  ·obtain⟨b,off,nm,rfl,_,hbw,hn,hsz,hc⟩:=zI (HS.out wr HB.out) k hlt
   have HN:=Lib.hid hn
   have Nl:=Lib.hid (vW id wr (HH.out wr HB.out) HT.out.tosJ)
   have hnd:qE T id=mI id x:=by unfold qE;rw[HX.out]
   rw[hnd]at Nl
   unfold mI at Nl
   have i0:(0:Int)≤k:=by omega
   have i1:(k:Int)<n:=by omega
   clear hn hnd hsz
   by_cases hk2:x.kind=2
   ·rw[hk2]at Nl
    cases hj:aj nm x.names with
    |none=>
     have hfin:=Lib.hid (yM HX.out hk2 HN.out hj)
     have GX:=Lib.hid (fun w1 (hb:Below w.heap.size w w1)=>pX id nm w1 (HH.out w1 hb) HE.out)
     rw[ES HT.out.sorted HX.out hj]at GX
     clear hj hk2
     go_wp2_with fail
     (with_reducible refine Nl.out.mono ?_)
     rintro e w1 ⟨rfl,hb1⟩
     have HB1:=Lib.hid (HB.out.trans (hb1.mono HB.out.size))
     have hcb:b<w1.heap.size:=Nat.lt_of_lt_of_le hbw hb1.size
     have hc1:w1.cell? ⟨b,off+k,none⟩=some (.string (strOf nm)):=by rw[hb1.cell (p:=⟨b,off+k,none⟩) hbw];exact hc
     have hr1:r<w1.heap.size:=Nat.lt_of_lt_of_le hr0 HB1.out.size
     clear hb1
     go_wp2_with fail
     (with_reducible refine(GX.out _ (HB1.out.trans ((wall w1 _).mono HB1.out.size))).mono ?_)
     rintro e w2 ⟨rfl,rfl⟩
     go_wp2_with fail
     go_ret2
     exact⟨oM (by rw[←uq.out,hfin.out]),HB1.out.trans ((wall w1 _).mono HB1.out.size)⟩
    |some j=>
     have hfin:=Lib.hid (yK HX.out hk2 HN.out hj)
     have HJ:=Lib.hid ((HT.out.leads id x HX.out _ (bC hj)).1)
     have GX:=Lib.hid (fun w1 (hb:Below w.heap.size w w1)=>pX id nm w1 (HH.out w1 hb) HE.out)
     obtain⟨m,hm1,hm2⟩:=ET HT.out.tosJ HX.out hj
     rw[hm1]at GX
     have wQ:=Lib.hid hm2
     clear hj hk2 hm1 hm2
     go_wp2_with fail
     (with_reducible refine Nl.out.mono ?_)
     rintro e w1 ⟨rfl,hb1⟩
     have HB1:=Lib.hid (HB.out.trans (hb1.mono HB.out.size))
     have hcb:b<w1.heap.size:=Nat.lt_of_lt_of_le hbw hb1.size
     have hc1:w1.cell? ⟨b,off+k,none⟩=some (.string (strOf nm)):=by rw[hb1.cell (p:=⟨b,off+k,none⟩) hbw];exact hc
     have hr1:r<w1.heap.size:=Nat.lt_of_lt_of_le hr0 HB1.out.size
     obtain⟨aE,cE,q2,-,hrow,-⟩:=(HH.out w1 HB1.out).ent
     obtain⟨b2,off2,rfl,-,hb2,hml,hc2⟩:=hrow.wide jE rfl wQ.out (by omega)
     have q3:w1.cell? ⟨b2,off2+m*3+2,none⟩=some (.int .i64 j):=hc2 2 (by omega)
     have m0:(0:Int)≤m:=by omega
     have m1:(m:Int)<(aS T).length:=by omega
     have m2:¬(m:Int)<0:=by omega
     clear hb1 hrow hc2
     go_wp2_with fail
     (with_reducible refine(GX.out _ (HB1.out.trans ((wall w1 _).mono HB1.out.size))).mono ?_)
     rintro e w2 ⟨rfl,rfl⟩
     go_wp2_with fail
     go_roundw
     case rel=>exact⟨k+1,j,by omega,by go_num,rfl,HJ.out,by rw[←hfin.out];exact uq.out,HB1.out.trans ((wall w1 _).mono HB1.out.size)⟩
     case measure=>simp[intOf];omega
   ·have e1:(x.kind==2)=false:=by simpa using hk2
    have e2:(x.kind !=2)=true:=by simpa using hk2
    have hfin:=Lib.hid (yL HX.out hk2 HN.out)
    clear hk2
    go_wp2_with fail
    (with_reducible refine Nl.out.mono ?_)
    rintro e w1 ⟨rfl,hb1⟩
    have HB1:=Lib.hid (HB.out.trans (hb1.mono HB.out.size))
    clear hb1
    go_wp2_with fail
    go_ret2
    exact⟨oM (by rw[←uq.out,hfin.out]),HB1.out.trans ((wall w1 _).mono HB1.out.size)⟩
  ·go_wp2
   go_ret2
   exact⟨oM (by rw[←uq.out,List.drop_of_length_le (by have:=HL.out;omega)];rfl),HB.out⟩
end
end Go.Proofs.YtjnhnlabpccgjaaGreat
