/- permafrostref13: Take. package snap: Save. permafrostref13: Save. -/
import Derived.Test.YtjnhnlabpccgjaaGreatM30
import Derived.Test.YtjnhnlabpccgjaaGreatM32
import Derived.Test.YtjnhnlabpccgjaaGreatM33
import Derived.Test.YtjnhnlabpccgjaaGreatM22
import Derived.Test.YtjnhnlabpccgjaaGreatM18
import Derived.Test.YtjnhnlabpccgjaaGreatM16
import Derived.Test.YtjnhnlabpccgjaaGreatM14
import Derived.Test.YtjnhnlabpccgjaaGreatM21
import Derived.Test.YtjnhnlabpccgjaaGreatM24
namespace Go.Proofs.YtjnhnlabpccgjaaGreat
open Go.ChangeShapes Go.WideShapes Go.ChangeAt Go.RowKit
set_option linter.unusedVariables false
set_option linter.unusedSimpArgs false
structure LQ (t:TypeId) (k:Nat) (w u:World) (v:Value) (n:Nat) (x:List Value) (a:Option Addr) (m:Nat) (y:List Value):Prop where
 o:u.ownsRow w.heap.size t k v n x
 r:ah (fun b=>v.ownBlock≠some b∧b<u.heap.size) u a m y
 b:Below w.heap.size w u
section
variable {t t2:TypeId} {k:Nat} {w u u':World} {v v':Value} {n n':Nat} {x x':List Value} {a:Option Addr} {m:Nat} {y:List Value}
theorem LQ.start (w:World):LQ t k w w.drew (.slice none 0 0) 0 [] none 0 []:=⟨⟨by simp, .inl ⟨rfl,rfl⟩⟩,ah.nil _ _ _,(Below.refl _ _).drew⟩
theorem LQ.lit (h:LQ t k w u v n x a m y):LQ t k w (u.alloc (.cells #[] t)) (.slice (some ⟨u.heap.size,0,none⟩) 0 0) 0 [] a m y:=
 ⟨oU (MapKept.heap_alloc u _).1 h.b.size,h.r.move (by simp) fun b hb hbw=>⟨⟨fun e=>by simp[Value.ownBlock]at e;omega,by simp;omega⟩,Below.heap_alloc u _ b hbw⟩,h.b.trans ((wall u _).mono h.b.size)⟩
theorem LQ.one (h:LQ t k w u v n x a m y) (vs:List Value) (hm:vs.length≤maxLen):LQ t k w (u.alloc (.cells vs.toArray t2)) v n x (some ⟨u.heap.size,0,none⟩) vs.length vs:=
 ⟨nK h.o _,(gH (w:=u) vs t2 hm).mono fun b (hb:b=u.heap.size)=>⟨fun e=>by have:=kJ h.o b e;omega,by simp;omega⟩,h.b.trans ((wall u _).mono h.b.size)⟩
theorem LQ.app (h:LQ t k w u v n x a m y) (ho:u'.ownsRow w.heap.size t k v' n' x') (hg:u.grownBy u' v.ownBlock) (hat:v'.ownBlock=v.ownBlock∨v'.ownBlock=some u.heap.size):LQ t k w u' v' n' x' a m y:=by
 refine⟨ho,h.r.move hg.size fun b hb hbw=>⟨⟨fun e=> ?_,Nat.lt_of_lt_of_le hbw hg.size⟩,hg.block b hbw fun e=>hb.1 e.symm⟩,below_grown (B:=0) h.b h.o hg⟩
 rcases hat with h1|h1
 ·exact hb.1 (h1▸e)
 ·rw[h1]at e
  cases e
  omega
end
theorem WL {w:World} {base:Nat} {e:TypeId} {size:Nat} {a:Option Addr} {m c n:Nat} {xs:List Value} (h:w.ownsRow base e size (.slice a m c) n xs):n≤c:=by
 obtain⟨a',c',he,hle⟩:=cO h
 cases he
 exact hle
section
variable {W w:World} {o:Mark} {i j s r:Nat} {S:jc} {T:aA}
theorem LU {w8 w9:World} {a8 a9:Option Addr} {c8 c9 q:Nat} {vals:List Value} {x:dX} (hM:Marks W o w) (hi:i≠0) (hos:o s=i) (hsw:s<w.heap.size)
  (hO:dF o w vals S.l) (hb:Below w.heap.size w w8) (hK:Keeps (fun b=>b=s) w8 w9)
  (hh:w9.heap[s]? =some (.cells #[.int .i64 (S.next+1), .slice a9 x.hash.length c9, .slice a8 (S.l.length+1) c8] 129 (0,0)))
  (h4:S.l.length+1≤c8) (hrow:ah (fun b=>w.heap.size≤b∧b<w8.heap.size) w8 a8 ((S.l.length+1)*3) (vals++[.int .i64 x.id, .slice a9 x.hash.length c9,ptr q]))
  (h7:x.hash.length≤c9) (h8:ah (fun b=>w.heap.size≤b∧b<w8.heap.size) w8 a9 x.hash.length (x.hash.map bv)) (hT:iY o 0 w8 q x.t) (hok:eH x.t):
  Step o (fun k=>k=i) w o w9∧gW o i w9 s ⟨S.l++[x],S.next+1,x.hash⟩:=by
 have hK0:Keeps (fun b=>b=s) w w9:=(gU hb).trans hK fun x _ hx=>hx
 have hst:=Fg (i:=i) hM hos hK0
 have hi0:¬(fun j=>j=i) 0:=fun e=>hi e.symm
 have hmv:∀(a:Option Addr) (n:Nat) (vs:List Value),ah (fun b=>w.heap.size≤b∧b<w8.heap.size) w8 a n vs→ah (Free o w9) w9 a n vs:=fun a n vs h=>
  Fh (B:=w.heap.size) hM (Nat.le_refl _) (h.move hK.size fun b hb' hbw=>⟨⟨hb'.1,Nat.lt_of_lt_of_le hb'.2 hK.size⟩,hK.block b hbw fun e=>by have:=hb'.1;omega⟩)
 have hrf:iY o 0 w9 q x.t:=by
  obtain⟨F,hR,hr,hF⟩:=hT
  refine⟨F,hR.keeps hK fun b hb' e=> ?_,hr,hF⟩
  by_cases hbq:b=q
  ·rw[←hbq,e,hos]at hr
   exact hi hr
  ·have:=hF b hb' hbq
   rw[e,hos]at this
   exact hi this
 refine⟨hst,⟨a9,c9,a8,c8,vals++[.int .i64 x.id, .slice a9 x.hash.length c9,ptr q],?_,hos,Nat.lt_of_lt_of_le hsw hK0.size,?_,?_,(hO.step hi0 hst).append ⟨_,[],(List.append_nil _).symm,⟨a9,c9,q,rfl,h7,hmv _ _ _ h8,hrf,hok⟩,rfl⟩,h7,hmv _ _ _ h8⟩⟩
 ·simpa using hh
 ·simpa using h4
 ·simpa using hmv _ _ _ hrow
set_option maxRecDepth 100000 in
set_option maxHeartbeats 8000000 in
theorem LV (hS:gW o i w s S) (hR:iY o j w r T) (hM:Marks W o w) (hi:i≠0) (hT:eH T) (KM:S.l.length≤8) (hla:S.last.length≤64) (hnx:0≤S.next) (Vu:S.next≤1000000000):
  Calls Tryz.prog 36 #[ptr s,ptr r] w fun e w'=>e= .returned (.tuple #[.int .i64 (dI S T).1.1, .int .i64 (dI S T).1.2])∧Step o (fun k=>k=i) w o w'∧gW o i w' s (dI S T).2:=by
 have HS:=Lib.hid hS
 have HM:=Lib.hid hM
 obtain⟨la,lc,a,c,vals,h1,h2,h3,h4,h5,h6,h7,h8⟩:=hS.at_
 have HH:=Lib.hid h1
 have DX:=Lib.hid h6
 have Vw:=Lib.hid h8
 have RL:=Lib.hid h7
 have RN:=Lib.hid h2
 obtain⟨n,hn⟩:∃n,n=S.l.length:=⟨_,rfl⟩
 have HN:=Lib.hid hn
 obtain⟨m,hm⟩:∃m,m=S.last.length:=⟨_,rfl⟩
 have XG:=Lib.hid hm
 obtain⟨nx,uL⟩:∃nx,nx=S.next:=⟨_,rfl⟩
 have EH:=Lib.hid uL
 rw[←hn,←hm,←uL]at h1
 rw[←hn]at h4 h5 KM
 rw[←hm]at hla
 rw[←uL]at hnx Vu
 have lS:=Lib.hid h5
 have MU:Hid (∀w',Below w.heap.size w w'→w'.cell? ⟨s,0,none⟩=some (.int .i64 nx)∧w'.cell? ⟨s,1,none⟩=some (.slice la m lc)∧w'.cell? ⟨s,2,none⟩=some (.slice a n c)∧w'.frozen? ⟨s,2,none⟩=false):=fun w' hb=>by
  have hbb:=(hb.block s h3).trans h1
  refine⟨?_,?_,?_,?_⟩<;>simp[World.cell?,World.frozen?,hbb]
 obtain⟨q0,q1,q2,qf⟩:=MU.out w (Below.refl _ _)
 by_cases hfull:8≤n
 ·have hd:decide (8≤n)=true:=by simpa using hfull
  have hfi:(8:Int)≤(n:Int):=by omega
  have e1:dI S T=((0,4),S):=by unfold dI;rw[if_pos (by rw[←HN.out];exact hfull)]
  rw[e1]
  clear hS hM h1 h2 h5 h6 h7 h8 hn hm uL hR e1
  go_enter Tryz.func36,Tryz.ntmps36
  go_wp2_with fail
  go_ret2
  exact⟨rfl,Step.grow HM.out (Below.refl _ _),HS.out⟩
 ·have hd:decide (8≤n)=false:=by simpa using hfull
  have hfi:¬(8:Int)≤(n:Int):=by omega
  obtain⟨sv,hsv⟩:∃sv,sv=bZ (bf T):=⟨_,rfl⟩
  have e1:dI S T=((nx,0),⟨S.l++[⟨S.next,jR (S.last++sv),bf T⟩],S.next+1,jR (S.last++sv)⟩):=by unfold dI;rw[if_neg (by rw[←HN.out];exact hfull),uL,hsv]
  rw[e1]
  have KN:=hT.bf
  have hsl:=EI KN
  rw[←hsv]at hsl
  obtain⟨i8,SB⟩:∃i,Tryz.prog.info? 5=some i∧i.zero=some (.int .u8 0)∧i.size=1∧i.bytes=1:=info_parts (by kernel_rfl)
  obtain⟨iO,ZT⟩:∃j,Tryz.prog.info? 149=some j∧j.zero=some (.agg #[.int .i64 0, .slice none 0 0, .pointer none])∧j.size=3∧j.bytes=40:=info_parts (by kernel_rfl)
  have HI:=Lib.hid SB
  have sG:=Lib.hid ZT
  have YI:=Lib.hid KN
  have EJ:=Lib.hid hsv
  have HCM:=Lib.hid (zX hR hM hT)
  have HIN:=Lib.hid hi
  clear hS hM h1 h2 h5 h6 h7 h8 hn hm uL hR e1 hT KN SB ZT hsv hi
  go_enter Tryz.func36,Tryz.ntmps36
  go_wp2_with fail
  (with_reducible refine HCM.out.mono ?_)
  rintro e w1 ⟨q,rfl,hT1,hb1⟩
  have HT1:=Lib.hid hT1
  have HB1:=Lib.hid hb1
  have hs1:=hb1.size
  have QH:Hid (∀u,Below w1.heap.size w1 u→Calls Tryz.prog 15 #[ptr q] u (eO u sv)):=fun u hb=>by
   obtain⟨F,hF,-,-⟩:=hT1.grow hb
   have h9:=LP u hF YI.out
   rw[←EJ.out]at h9
   exact h9
  have HLR1:=Lib.hid (Vw.out.below hb1 (Nat.le_refl _))
  have HMLR:Hid (ah (Free o w) (w1.alloc (.cells #[] 5)) la m (S.last.map bv)):=by
   rw[XG.out]
   exact HLR1.out.below (wall w1 _) (by omega)
  obtain⟨z0,z1,z2,zf⟩:=MU.out w1 hb1
  have y1:=((wall w1 (.cells #[] 5)).cell (p:=⟨s,1,none⟩) (show s<w1.heap.size by omega)).trans z1
  clear hT1 hb1 q0 q1 q2 qf z0 z2 zf
  go_wp2_with (at_builtin;go_loud (refine aO rfl _ _ 23 rfl w1.heap.size 5 i8 _ 1 Tryz.underlying23 HI.out.1 HI.out.2.1 HI.out.2.2.1 HI.out.2.2.2 rfl (.slice (some ⟨w1.heap.size,0,none⟩) 0 0) 0 ([]) rfl (oU (MapKept.heap_alloc w1 _).1 (Nat.le_refl _)) la m lc (S.last.map bv) rfl HMLR.out (dH _) (by unfold maxLen;omega) (by omega) (by simp) ?_;intro A2 c2 u2 hown hg _ hat;simp only[Nat.zero_add,List.nil_append]at hown hat⊢;have CO:=Lib.hid hown;have HB2:=Lib.hid (eU hg (sw w1) (wall w1 _));clear hown hg hat))
  (with_reducible refine(QH.out _ HB2.out).mono ?_)
  rintro e w3 ⟨a3,c3,rfl,hown3,hb3⟩
  have aac:=Lib.hid (own_below CO.out hb3)
  have HR3:=Lib.hid (eT hown3)
  have HB3:=Lib.hid (HB2.out.trans (hb3.mono HB2.out.size))
  obtain⟨n3,Rc⟩:∃n3,n3=sv.length:=⟨_,rfl⟩
  rw[←Rc]at HR3 hsl⊢
  have XP:=Lib.hid Rc
  clear hown3 hb3 Rc
  go_wp2_with (at_builtin;go_loud (refine aO rfl _ _ 23 rfl w1.heap.size 5 i8 _ 1 Tryz.underlying23 HI.out.1 HI.out.2.1 HI.out.2.2.1 HI.out.2.2.2 rfl (.slice A2 m c2) m (S.last.map bv) rfl aac.out a3 n3 c3 (sv.map bv) rfl HR3.out (dH _) (by unfold maxLen;omega) (by omega) HB3.out.size ?_;intro A4 c4 u4 hown hg _ hat;have Ox:=Lib.hid hown;have kG:=Lib.hid (eU hg (fun b hb=>bY aac.out b hb) HB3.out);clear hown hg hat))
  have HRS:Hid (ah (fun x=>w1.heap.size≤x∧x<u4.heap.size) u4 A4 (m+n3) ((S.last++sv).map bv)):=by
   have h9:=(ah.lg Ox.out).2
   rw[←List.map_append]at h9
   exact h9
  (with_reducible refine(PE A4 (m+n3) c4 (S.last++sv) u4 HRS.out (by omega)).mono ?_)
  rintro e w5 ⟨a5,c5,rfl,hown5,hb5⟩
  have EK:=Lib.hid ((eT hown5).mono (S':=fun b=>w.heap.size≤b∧b<w5.heap.size) fun b hb=>⟨by have:=kG.out.size;omega,hb.2⟩)
  have XQ:Hid ((jR (S.last++sv)).length≤c5):=WL hown5
  have rW:=Lib.hid (HB1.out.trans ((kG.out.trans (hb5.mono kG.out.size)).mono hs1))
  have AO:=Lib.hid ((HT1.out.grow (kG.out.trans (hb5.mono kG.out.size))))
  obtain⟨n5,hn5⟩:∃n5,n5=(jR (S.last++sv)).length:=⟨_,rfl⟩
  rw[←hn5]at EK XQ⊢
  have MS:=Lib.hid hn5
  have iK:Hid (∀u,Below w5.heap.size w5 u→u.cell? ⟨s,0,none⟩=some (.int .i64 nx)∧u.cell? ⟨s,1,none⟩=some (.slice la m lc)∧u.cell? ⟨s,2,none⟩=some (.slice a n c)∧u.frozen? ⟨s,2,none⟩=false):=fun u hb=>MU.out u (rW.out.trans (hb.mono rW.out.size))
  have nJ:Hid (∀u,Below w5.heap.size w5 u→ah (Free o w) u a (n*3) vals):=fun u hb=>lS.out.below (rW.out.trans (hb.mono rW.out.size)) (Nat.le_refl _)
  have Lx:=Lib.hid DX.out.one
  have w_:=Lib.hid (LQ.start (t:=149) (k:=3) w5)
  have RP:s<w5.heap.size:=by have:=rW.out.size;omega
  have LW:=rW.out.size
  have PU:Hid (∀(u u9:World) (A8:Option Addr) (m8 c8:Nat) (av:Option Addr) (mm:Nat) (yy:List Value),LQ 149 3 w5 u (.slice A8 m8 c8) (n+1) (vals++[.int .i64 nx, .slice a5 n5 c5,ptr q]) av mm yy→Keeps (fun b=>b=s) u u9→u9.heap[s]? =some (.cells #[.int .i64 (nx+1), .slice a5 n5 c5, .slice A8 (n+1) c8] 129 (0,0))→Step o (fun k=>k=i) w o u9∧gW o i u9 s ⟨S.l++[⟨S.next,jR (S.last++sv),bf T⟩],S.next+1,jR (S.last++sv)⟩):=fun u u9 A8 m8 c8 av mm yy h hK hh=>by
   obtain⟨e8,hcc,-,hrow⟩:=ah.lM h.o (by unfold maxLen;omega)
   subst e8
   have hbu:=rW.out.trans (h.b.mono LW)
   refine LU (x:=⟨S.next,jR (S.last++sv),bf T⟩) (vals:=vals) (q:=q) (a8:=A8) (c8:=c8) (a9:=a5) (c9:=c5) HM.out HIN.out RN.out h3 DX.out hbu hK ?_ ?_ ?_ ?_ ?_ (AO.out.grow h.b) YI.out
   ·rw[←MS.out,←EH.out,←HN.out];exact hh
   ·rw[←HN.out];exact hcc
   ·rw[←MS.out,←EH.out,←HN.out];exact hrow.mono fun b hb=>⟨by omega,hb.2⟩
   ·rw[←MS.out];exact XQ.out
   ·rw[←MS.out];exact EK.out.move h.b.size fun b hb hbw=>⟨⟨hb.1,Nat.lt_of_lt_of_le hb.2 h.b.size⟩,h.b.block b hbw⟩
  have HHD:Hid (∀u,Below w5.heap.size w5 u→u.heap[s]? =some (.cells #[.int .i64 nx, .slice la m lc, .slice a n c] 129 (0,0))):=fun u hb=>by
   rw[EH.out,XG.out,HN.out]
   exact((rW.out.trans (hb.mono LW)).block s h3).trans HH.out
  clear hown5 hb5 hn5 z1 y1
  go_wp2_with fail
  refine qF 18 ((fun w'=>w'.cell? ⟨s,0,none⟩=some (.int .i64 nx)∧w'.cell? ⟨s,1,none⟩=some (.slice la m lc)∧w'.cell? ⟨s,2,none⟩=some (.slice a n c)∧w'.frozen? ⟨s,2,none⟩=false)) ?_ fun hS=> ?_
  ·exact iK.out _ w_.out.b
  refine ak 0 hS ?_
  refine ak 2 hS ?_
  refine ak 3 hS ?_
  refine ak 4 hS ?_
  refine ak 5 hS ?_
  refine ak 7 hS ?_
  refine ak 8 hS ?_
  refine ak 9 hS ?_
  refine ak 10 hS ?_
  refine ak 11 hS ?_
  refine ak 12 hS ?_
  refine ak 13 hS ?_
  refine kK (rs:=[1,14]) (by kernel_rfl) (by simp) ?_
  refine dx.cons (o:= ?o2_0) ?aad (fun K hK=> ?g1_1) (dx.cons (o:= ?o2_1) ?aae (fun K hK=> ?aaf) dx.nil)
  case aad=>simp only[List.getElem?_toArray,List.getElem?_cons_succ,List.getElem?_cons_zero];rfl
  case aae=>simp only[List.getElem?_toArray,List.getElem?_cons_succ,List.getElem?_cons_zero];rfl
  case g1_1=>
   go_simp
   have Lp:=w_.out.lit
   try simp only[World.size_alloc]at Lp
   refine bR hK (iK.out _ Lp.b) fun hS=> ?_
   clear hK K
   refine kK (rs:=[6,14]) (by kernel_rfl) (by simp) ?_
   refine dx.cons (o:= ?o5_0) ?aag (fun K hK=> ?VP) (dx.cons (o:= ?o5_1) ?aah (fun K hK=> ?aai) dx.nil)
   case aag=>simp only[List.getElem?_toArray,List.getElem?_cons_succ,List.getElem?_cons_zero];rfl
   case aah=>simp only[List.getElem?_toArray,List.getElem?_cons_succ,List.getElem?_cons_zero];rfl
   case VP=>
    refine dz (by rfl) (.tmp 27) (.tmp 31) 127 (by rfl) w5.heap.size 149 iO _ 3 40 Tryz.underlying127 sG.out.1 sG.out.2.1 sG.out.2.2.1 sG.out.2.2.2 rfl (by omega) _ 0 [] (by rfl) Lp.o _ n _ (vals) (by rfl) (nJ.out _ Lp.b) Lx.out (by unfold maxLen;omega) (by omega) Lp.b.size ?_
    intro A6 c6 u6 hown hgr hat
    have VQ:=Lp.app hown hgr hat
    simp only[Nat.zero_add,List.nil_append]at VQ⊢
    clear hown hgr hat
    refine bR hK (iK.out _ VQ.b) fun hS=> ?_
    clear hK K
    refine bK 14 fun K hK=> ?_
    go_simp
    have XR:=VQ.one (t2:=149) [.int .i64 nx, .slice a5 n5 c5,ptr q] (by simp[maxLen])
    try simp only[World.size_alloc]at XR
    refine bR hK (iK.out _ XR.b) fun hS=> ?_
    clear hK K
    refine bK 15 fun K hK=> ?_
    have Fu:ah _ _ _ (1*3) [.int .i64 nx, .slice a5 n5 c5,ptr q]:=XR.r
    refine dz (by rfl) (.tmp 32) (.tmp 40) 127 (by rfl) w5.heap.size 149 iO _ 3 40 Tryz.underlying127 sG.out.1 sG.out.2.1 sG.out.2.2.1 sG.out.2.2.2 rfl (by omega) _ n vals (by rfl) XR.o _ 1 _ ([.int .i64 nx, .slice a5 n5 c5,ptr q]) (by rfl) Fu (by simp[Value.oneCell']) (by unfold maxLen;omega) (by omega) XR.b.size ?_
    intro Ab c15 Ch hown hgr hat
    have hC8:=XR.app hown hgr hat
    clear hown hgr hat
    refine bR hK (iK.out _ hC8.b) fun hS=> ?_
    clear hK K
    refine ak 16 hS ?_
    refine ak 17 hS ?_
    refine bK 18 fun K hK=> ?_
    go_simp
    refine j_ hK ?_
    clear hS hK K
    have Uy:=Lib.hid hC8
    have zu:(Ch.setCell ⟨s,2,none⟩ (.slice Ab (n+1) c15)).heap[s]? =some (.cells #[.int .i64 nx, .slice la m lc, .slice Ab (n+1) c15] 129 (0,0)):=aG (HHD.out _ Uy.out.b)
    have Ul:Hid (Keeps (fun b=>b=s) Ch (Ch.setCell ⟨s,2,none⟩ (.slice Ab (n+1) c15))):=Lib.hid (Keeps.fq Ch ⟨s,2,none⟩ (.slice Ab (n+1) c15))
    generalize Ch.setCell ⟨s,2,none⟩ (.slice Ab (n+1) c15)=w9 at*
    have p1:w9.cell? ⟨s,1,none⟩=some (.slice la m lc):=by simp[World.cell?,zu]
    have f1:w9.frozen? ⟨s,1,none⟩=false:=by simp[World.frozen?,zu]
    have qP:(w9.setCell ⟨s,1,none⟩ (.slice a5 n5 c5)).heap[s]? =some (.cells #[.int .i64 nx, .slice a5 n5 c5, .slice Ab (n+1) c15] 129 (0,0)):=aG zu
    have PV:Hid (Keeps (fun b=>b=s) Ch (w9.setCell ⟨s,1,none⟩ (.slice a5 n5 c5))):=Ul.out.trans (Keeps.fq w9 ⟨s,1,none⟩ (.slice a5 n5 c5)) fun x _ hx=>hx
    have p0:(w9.setCell ⟨s,1,none⟩ (.slice a5 n5 c5)).cell? ⟨s,0,none⟩=some (.int .i64 nx):=by simp[World.cell?,qP]
    have f0:(w9.setCell ⟨s,1,none⟩ (.slice a5 n5 c5)).frozen? ⟨s,0,none⟩=false:=by simp[World.frozen?,qP]
    have pE:((w9.setCell ⟨s,1,none⟩ (.slice a5 n5 c5)).setCell ⟨s,0,none⟩ (.int .i64 (nx+1))).heap[s]? =some (.cells #[.int .i64 (nx+1), .slice a5 n5 c5, .slice Ab (n+1) c15] 129 (0,0)):=aG qP
    have p9:((w9.setCell ⟨s,1,none⟩ (.slice a5 n5 c5)).setCell ⟨s,0,none⟩ (.int .i64 (nx+1))).cell? ⟨s,0,none⟩=some (.int .i64 (nx+1)):=by simp[World.cell?,pE]
    have e1:IntKind.i64.wrap (nx+1)=nx+1:=IntWalk.i64_in _ (by omega)
    have e2:IntKind.i64.wrap (nx+1-1)=nx:=by rw[show nx+1-1=nx by omega];exact IntWalk.i64_in _ (by omega)
    have uT:=Lib.hid pE
    clear zu qP pE hC8
    go_wp2_with fail
    go_ret2
    refine⟨rfl,?_⟩
    exact PU.out _ _ _ _ _ _ _ _ Uy.out (PV.out.trans (Keeps.fq _ ⟨s,0,none⟩ _) fun x _ hx=>hx) uT.out
   case aai=>
    go_simp
    have O7:=Lp.one (t2:=149) [.int .i64 nx, .slice a5 n5 c5,ptr q] (by simp[maxLen])
    try simp only[World.size_alloc]at O7
    refine bR hK (iK.out _ O7.b) fun hS=> ?_
    clear hK K
    refine bK 6 fun K hK=> ?_
    refine dz (by rfl) (.tmp 27) (.tmp 31) 127 (by rfl) w5.heap.size 149 iO _ 3 40 Tryz.underlying127 sG.out.1 sG.out.2.1 sG.out.2.2.1 sG.out.2.2.2 rfl (by omega) _ 0 [] (by rfl) O7.o _ n _ (vals) (by rfl) (nJ.out _ O7.b) Lx.out (by unfold maxLen;omega) (by omega) O7.b.size ?_
    intro A6 c6 u6 hown hgr hat
    have LX:=O7.app hown hgr hat
    simp only[Nat.zero_add,List.nil_append]at LX⊢
    clear hown hgr hat
    refine bR hK (iK.out _ LX.b) fun hS=> ?_
    clear hK K
    refine bK 15 fun K hK=> ?_
    have Fu:ah _ _ _ (1*3) [.int .i64 nx, .slice a5 n5 c5,ptr q]:=LX.r
    refine dz (by rfl) (.tmp 32) (.tmp 40) 127 (by rfl) w5.heap.size 149 iO _ 3 40 Tryz.underlying127 sG.out.1 sG.out.2.1 sG.out.2.2.1 sG.out.2.2.2 rfl (by omega) _ n vals (by rfl) LX.o _ 1 _ ([.int .i64 nx, .slice a5 n5 c5,ptr q]) (by rfl) Fu (by simp[Value.oneCell']) (by unfold maxLen;omega) (by omega) LX.b.size ?_
    intro Ab c15 Ch hown hgr hat
    have WM:=LX.app hown hgr hat
    clear hown hgr hat
    refine bR hK (iK.out _ WM.b) fun hS=> ?_
    clear hK K
    refine ak 16 hS ?_
    refine ak 17 hS ?_
    refine bK 18 fun K hK=> ?_
    go_simp
    refine j_ hK ?_
    clear hS hK K
    have Uy:=Lib.hid WM
    have zu:(Ch.setCell ⟨s,2,none⟩ (.slice Ab (n+1) c15)).heap[s]? =some (.cells #[.int .i64 nx, .slice la m lc, .slice Ab (n+1) c15] 129 (0,0)):=aG (HHD.out _ Uy.out.b)
    have Ul:Hid (Keeps (fun b=>b=s) Ch (Ch.setCell ⟨s,2,none⟩ (.slice Ab (n+1) c15))):=Lib.hid (Keeps.fq Ch ⟨s,2,none⟩ (.slice Ab (n+1) c15))
    generalize Ch.setCell ⟨s,2,none⟩ (.slice Ab (n+1) c15)=w9 at*
    have p1:w9.cell? ⟨s,1,none⟩=some (.slice la m lc):=by simp[World.cell?,zu]
    have f1:w9.frozen? ⟨s,1,none⟩=false:=by simp[World.frozen?,zu]
    have qP:(w9.setCell ⟨s,1,none⟩ (.slice a5 n5 c5)).heap[s]? =some (.cells #[.int .i64 nx, .slice a5 n5 c5, .slice Ab (n+1) c15] 129 (0,0)):=aG zu
    have PV:Hid (Keeps (fun b=>b=s) Ch (w9.setCell ⟨s,1,none⟩ (.slice a5 n5 c5))):=Ul.out.trans (Keeps.fq w9 ⟨s,1,none⟩ (.slice a5 n5 c5)) fun x _ hx=>hx
    have p0:(w9.setCell ⟨s,1,none⟩ (.slice a5 n5 c5)).cell? ⟨s,0,none⟩=some (.int .i64 nx):=by simp[World.cell?,qP]
    have f0:(w9.setCell ⟨s,1,none⟩ (.slice a5 n5 c5)).frozen? ⟨s,0,none⟩=false:=by simp[World.frozen?,qP]
    have pE:((w9.setCell ⟨s,1,none⟩ (.slice a5 n5 c5)).setCell ⟨s,0,none⟩ (.int .i64 (nx+1))).heap[s]? =some (.cells #[.int .i64 (nx+1), .slice a5 n5 c5, .slice Ab (n+1) c15] 129 (0,0)):=aG qP
    have p9:((w9.setCell ⟨s,1,none⟩ (.slice a5 n5 c5)).setCell ⟨s,0,none⟩ (.int .i64 (nx+1))).cell? ⟨s,0,none⟩=some (.int .i64 (nx+1)):=by simp[World.cell?,pE]
    have e1:IntKind.i64.wrap (nx+1)=nx+1:=IntWalk.i64_in _ (by omega)
    have e2:IntKind.i64.wrap (nx+1-1)=nx:=by rw[show nx+1-1=nx by omega];exact IntWalk.i64_in _ (by omega)
    have uT:=Lib.hid pE
    clear zu qP pE WM
    go_wp2_with fail
    go_ret2
    refine⟨rfl,?_⟩
    exact PU.out _ _ _ _ _ _ _ _ Uy.out (PV.out.trans (Keeps.fq _ ⟨s,0,none⟩ _) fun x _ hx=>hx) uT.out
  case aaf=>
   go_simp
   have Lr:=w_.out.one (t2:=149) [.int .i64 nx, .slice a5 n5 c5,ptr q] (by simp[maxLen])
   try simp only[World.size_alloc]at Lr
   refine bR hK (iK.out _ Lr.b) fun hS=> ?_
   clear hK K
   refine bK 1 fun K hK=> ?_
   go_simp
   have Bh:=Lr.lit
   try simp only[World.size_alloc]at Bh
   refine bR hK (iK.out _ Bh.b) fun hS=> ?_
   clear hK K
   refine bK 6 fun K hK=> ?_
   refine dz (by rfl) (.tmp 27) (.tmp 31) 127 (by rfl) w5.heap.size 149 iO _ 3 40 Tryz.underlying127 sG.out.1 sG.out.2.1 sG.out.2.2.1 sG.out.2.2.2 rfl (by omega) _ 0 [] (by rfl) Bh.o _ n _ (vals) (by rfl) (nJ.out _ Bh.b) Lx.out (by unfold maxLen;omega) (by omega) Bh.b.size ?_
   intro A6 c6 u6 hown hgr hat
   have xO:=Bh.app hown hgr hat
   simp only[Nat.zero_add,List.nil_append]at xO⊢
   clear hown hgr hat
   refine bR hK (iK.out _ xO.b) fun hS=> ?_
   clear hK K
   refine bK 15 fun K hK=> ?_
   have Fu:ah _ _ _ (1*3) [.int .i64 nx, .slice a5 n5 c5,ptr q]:=xO.r
   refine dz (by rfl) (.tmp 32) (.tmp 40) 127 (by rfl) w5.heap.size 149 iO _ 3 40 Tryz.underlying127 sG.out.1 sG.out.2.1 sG.out.2.2.1 sG.out.2.2.2 rfl (by omega) _ n vals (by rfl) xO.o _ 1 _ ([.int .i64 nx, .slice a5 n5 c5,ptr q]) (by rfl) Fu (by simp[Value.oneCell']) (by unfold maxLen;omega) (by omega) xO.b.size ?_
   intro Ab c15 Ch hown hgr hat
   have Ia:=xO.app hown hgr hat
   clear hown hgr hat
   refine bR hK (iK.out _ Ia.b) fun hS=> ?_
   clear hK K
   refine ak 16 hS ?_
   refine ak 17 hS ?_
   refine bK 18 fun K hK=> ?_
   go_simp
   refine j_ hK ?_
   clear hS hK K
   have Uy:=Lib.hid Ia
   have zu:(Ch.setCell ⟨s,2,none⟩ (.slice Ab (n+1) c15)).heap[s]? =some (.cells #[.int .i64 nx, .slice la m lc, .slice Ab (n+1) c15] 129 (0,0)):=aG (HHD.out _ Uy.out.b)
   have Ul:Hid (Keeps (fun b=>b=s) Ch (Ch.setCell ⟨s,2,none⟩ (.slice Ab (n+1) c15))):=Lib.hid (Keeps.fq Ch ⟨s,2,none⟩ (.slice Ab (n+1) c15))
   generalize Ch.setCell ⟨s,2,none⟩ (.slice Ab (n+1) c15)=w9 at*
   have p1:w9.cell? ⟨s,1,none⟩=some (.slice la m lc):=by simp[World.cell?,zu]
   have f1:w9.frozen? ⟨s,1,none⟩=false:=by simp[World.frozen?,zu]
   have qP:(w9.setCell ⟨s,1,none⟩ (.slice a5 n5 c5)).heap[s]? =some (.cells #[.int .i64 nx, .slice a5 n5 c5, .slice Ab (n+1) c15] 129 (0,0)):=aG zu
   have PV:Hid (Keeps (fun b=>b=s) Ch (w9.setCell ⟨s,1,none⟩ (.slice a5 n5 c5))):=Ul.out.trans (Keeps.fq w9 ⟨s,1,none⟩ (.slice a5 n5 c5)) fun x _ hx=>hx
   have p0:(w9.setCell ⟨s,1,none⟩ (.slice a5 n5 c5)).cell? ⟨s,0,none⟩=some (.int .i64 nx):=by simp[World.cell?,qP]
   have f0:(w9.setCell ⟨s,1,none⟩ (.slice a5 n5 c5)).frozen? ⟨s,0,none⟩=false:=by simp[World.frozen?,qP]
   have pE:((w9.setCell ⟨s,1,none⟩ (.slice a5 n5 c5)).setCell ⟨s,0,none⟩ (.int .i64 (nx+1))).heap[s]? =some (.cells #[.int .i64 (nx+1), .slice a5 n5 c5, .slice Ab (n+1) c15] 129 (0,0)):=aG qP
   have p9:((w9.setCell ⟨s,1,none⟩ (.slice a5 n5 c5)).setCell ⟨s,0,none⟩ (.int .i64 (nx+1))).cell? ⟨s,0,none⟩=some (.int .i64 (nx+1)):=by simp[World.cell?,pE]
   have e1:IntKind.i64.wrap (nx+1)=nx+1:=IntWalk.i64_in _ (by omega)
   have e2:IntKind.i64.wrap (nx+1-1)=nx:=by rw[show nx+1-1=nx by omega];exact IntWalk.i64_in _ (by omega)
   have uT:=Lib.hid pE
   clear zu qP pE Ia
   go_wp2_with fail
   go_ret2
   refine⟨rfl,?_⟩
   exact PU.out _ _ _ _ _ _ _ _ Uy.out (PV.out.trans (Keeps.fq _ ⟨s,0,none⟩ _) fun x _ hx=>hx) uT.out
end
def gJ (x:dX):List UInt8:=dR x.id 8++lF x.hash++dR (bZ x.t).length 8++bZ x.t
def eD (S:jc):List UInt8:=dR S.next 8++lF S.last++dR S.l.length 1++S.l.flatMap gJ
structure PW (S:jc):Prop where
 few:S.l.length≤8
 last:S.last.length≤64
 next:0≤S.next∧S.next≤1000000000
 each:∀x∈S.l,(0≤x.id∧x.id≤1000000000)∧x.hash.length≤64
theorem xg {T:aA} (hT:eH T):(bZ T).length≤6000000:=by
 have h1:=rX hT T (fun q hq=>hq)
 have h2:=hT.len
 unfold bZ
 rw[List.length_append,bO]
 omega
theorem PX {x:dX} (hT:eH x.t) (hh:x.hash.length≤64):(gJ x).length≤6000100:=by
 have:=xg hT
 unfold gJ
 simp only[List.length_append,bO,kL]
 omega
structure SvW (S:jc):Prop where
 few:S.l.length≤8
 last:S.last.length≤64
 next:0≤S.next∧S.next≤1099511627776
 each:∀x∈S.l,(0≤x.id∧x.id≤1099511627776)∧x.hash.length≤64
theorem PW.w {S:jc} (h:PW S):SvW S:=⟨h.few,h.last,⟨h.next.1,by have:=h.next.2;omega⟩,fun x hx=>⟨⟨(h.each x hx).1.1,by have:=(h.each x hx).1.2;omega⟩,(h.each x hx).2⟩⟩
theorem Fv {o:Mark} {w:World}:∀{vs:List Value} {l:List dX},vQ o w vs l→(∀x∈l,x.hash.length≤64)→(l.flatMap gJ).length≤6000100*l.length
 |_,[],_,_=>by simp
 |_,x::r,⟨v1,v2,h1,h2,h3⟩,hh=>by
  obtain⟨a,c,q,e1,e2,e3,e4,e5⟩:=h2
  have k1:=PX e5 (hh x (by simp))
  have k2:=Fv h3 fun y hy=>hh y (by simp[hy])
  rw[List.flatMap_cons,List.length_append,List.length_cons]
  omega
theorem LY {l:List dX} {k:Nat} {x:dX} (h:l[k]? =some x):(l.take (k+1)).flatMap gJ=(l.take k).flatMap gJ++gJ x:=by
 obtain⟨hk,e⟩:=List.getElem?_eq_some_iff.1 h
 rw[List.take_succ_eq_append_getElem hk,List.flatMap_append,e]
 simp
theorem Bl {o:Mark} {w:World} {vs:List Value} {l:List dX} (h:vQ o w vs l) (hh:∀x∈l,x.hash.length≤64) (h8:l.length≤8) (k:Nat):((l.take k).flatMap gJ).length≤50000000:=by
 have:=Fv (h.take k) fun x hx=>hh x (List.mem_of_mem_take hx)
 have h9:(l.take k).length≤8:=by rw[List.length_take];omega
 omega
def Aside (x:Nat) (v:Value) (lo hi:Nat):Prop:=∀b,lo≤b→b<hi→b≠x∧v.ownBlock≠some b
theorem Aside.more {B x lo hi:Nat} {w w':World} {v v':Value} {bs':List UInt8} (h:Aside x v lo hi) (hm:jy B w x v bs' v' w') (hw:hi≤w.heap.size):Aside x v' lo hi∧∀b,lo≤b→b<hi→w'.heap[b]? =w.heap[b]? :=by
 refine⟨fun b h1 h2=>⟨(h b h1 h2).1,fun h9=> ?_⟩,fun b h1 h2=>hm.2.1.block b (by omega) fun h9=> ?_⟩
 ·rcases hm.2.2 b h9 with h3|h3
  ·exact(h b h1 h2).2 h3
  ·omega
 ·rcases h9 with h3|h3
  ·exact(h b h1 h2).1 h3
  ·exact(h b h1 h2).2 h3
section
variable {W w:World} {o:Mark} {i s:Nat} {S:jc}
def Ci (w:World) (x:Nat) (bs:List UInt8) (wr:World):Prop:=∃v,bS w.heap.size wr x v bs∧Below w.heap.size w wr
theorem Ci.more {w:World} {x:Nat} {bs bs':List UInt8} {wr w':World} {v:Value} {e:Ending} (h:bS w.heap.size wr x v bs) (hb:Below w.heap.size w wr) (ht:nY w.heap.size wr x v bs' e w'):e= .returned (.tuple #[])∧Ci w x bs' w':=by
 obtain⟨rfl,v',hm⟩:=ht
 exact⟨rfl,v',hm.1,hb.trans (hm.low h)⟩
theorem Dq (z:Int) (h0:0≤z) (h1:z≤1099511627776):∀w,(convert 3 27 (.int .i64 z)).run Tryz.prog w= .ok (.int .u64 z) w:=fun w=>by
 have hk:Tryz.prog.intKind 27= .u64:=by kernel_rfl
 have:=run_convert_int (P:=Tryz.prog) w 3 27 .i64 z (by rw[Tryz.underlying3];rfl) (by rw[hk];exact Tryz.underlying27)
 rw[this,hk]
 have e:IntKind.u64.wrap z=z:=by
  show z%18446744073709551616=z
  omega
 rw[e]
set_option maxRecDepth 100000 in
set_option maxHeartbeats 8000000 in
theorem Dt {K:aA→Prop} (hK:∀T,K T→OkW T∧∀k x,aj k T=some x→x.names.length≤65535) (hS:iT K o i w s S) (hM:Marks W o w) (hv:SvW S) (htk:∀k,((S.l.take k).flatMap gJ).length≤85000000):Calls Tryz.prog 7 #[ptr s] w (eO w (eD S)):=by
 obtain⟨v,la,lc,vals,h1,h2,h3,h4,h5,h6,h7,h8⟩:=hS.at_
 obtain⟨a,c,rfl,hcap⟩:=cO h4
 have Ky:=hv.few
 obtain⟨-,-,hrow⟩:=ah.nZ h4 (by unfold maxLen;omega)
 have DX:=Lib.hid h6
 have lS:=Lib.hid hrow
 have Vw:=Lib.hid h8
 have RL:=Lib.hid h7
 have HM:=Lib.hid hM
 have HV:=Lib.hid hv
 have DV:=Lib.hid htk
 have HKK:=Lib.hid hK
 have HH:Hid (∀w',Below w.heap.size w w'→w'.cell? ⟨s,0,none⟩=some (.slice a S.l.length c)∧w'.cell? ⟨s,1,none⟩=some (.int .i64 S.next)∧w'.cell? ⟨s,2,none⟩=some (.slice la S.last.length lc)):=fun w' hb=>by
  have:=(hb.block s h3).trans h1
  refine⟨?_,?_,?_⟩<;>simp[World.cell?,this]
 have hcn:=Dq S.next hv.next.1 hv.next.2
 obtain⟨n,hn⟩:∃n,n=S.l.length:=⟨_,rfl⟩
 have HN:=Lib.hid hn
 rw[←hn]at HH hcap Ky
 have hll:=hv.last
 have hnx:=hv.next
 obtain⟨c0,c1,c2⟩:=HH.out w (Below.refl _ _)
 clear hS hM hv htk hK h1 h2 h4 h5 h6 h7 h8 hrow hn
 go_enter Tryz.func7,Tryz.ntmps7
 go_wp2_with fail
 (with_reducible refine(oz _).mono ?_)
 rintro e w1 ⟨rfl,hW1,hb1⟩
 have HW1:=Lib.hid hW1
 have HB1:=Lib.hid hb1
 obtain⟨d0,d1,d2⟩:=HH.out w1 hb1
 clear hW1 hb1 c0 c1 c2
 go_wp2_with fail
 (with_reducible refine(uG HW1.out S.next hnx.1 (by omega) (by simp)).mono ?_)
 intro e w2 ht2
 obtain⟨rfl,x2,hW2,hb2⟩:=Ci.more HW1.out HB1.out ht2
 have HW2:=Lib.hid hW2
 have HB2:=Lib.hid hb2
 obtain⟨e0,e1,e2⟩:=HH.out w2 hb2
 clear ht2 hW2 hb2 d0 d1 d2 HW1
 go_wp2_with fail
 have hlr:=Vw.out.below HB2.out (Nat.le_refl _)
 (with_reducible refine(uH HW2.out la S.last.length lc S.last hlr (fun b hb=>⟨by have:=HW2.out.low;omega,fun h9=>by have:=bY HW2.out.own b h9;omega⟩) RL.out (by simp[bO]) (by omega)).mono ?_)
 intro e w3 ht3
 obtain⟨rfl,x3,hW3,hb3⟩:=Ci.more HW2.out HB2.out ht3
 have HW3:=Lib.hid hW3
 have HB3:=Lib.hid hb3
 obtain⟨f0,f1,f2⟩:=HH.out w3 hb3
 clear ht3 hW3 hb3 e0 e1 e2 HW2 hlr
 go_wp2_with fail
 (with_reducible refine(uF HW3.out (n:Int) (by omega) (by omega) (by simp[bO];omega)).mono ?_)
 intro e w4 Jw
 obtain⟨rfl,x4,vS,hb4⟩:=Ci.more HW3.out HB3.out Jw
 have qZ:=Lib.hid vS
 have kG:=Lib.hid hb4
 obtain⟨k0,k1,k2⟩:=HH.out w4 hb4
 clear Jw vS hb4 f0 f1 f2 HW3
 obtain⟨pre,hpre⟩:∃pre,pre=[]++dR S.next 8++(dR (S.last.length:Int) 2++S.last)++dR (n:Int) 1:=⟨_,rfl⟩
 have hprl:pre.length≤1000:=by rw[hpre];simp[bO];omega
 rw[←hpre]at qZ
 have HPRE:=Lib.hid hpre
 clear hpre
 go_wp2_with fail
 go_loopw [5,6,33] (fun _ _ iv wr=>∃k:Nat,iv= .int .i64 k∧k≤n∧Ci w w.heap.size (pre++(S.l.take k).flatMap gJ) wr) (fun _ _ iv _=>n-(intOf iv).toNat)
 case atStart=>exact⟨0,rfl,Nat.zero_le _,x4,by simpa using qZ.out,kG.out⟩
 case round=>
  obtain⟨k,rfl,hk,y,hy,hby⟩:=hrel
  have HY:=Lib.hid hy
  have MV:=Lib.hid hby
  have hbl:=DV.out k
  clear hy hby
  by_cases hlt:k<n
  ·have hd:decide ((k:Int)<(n:Int))=true:=by simpa using hlt
   obtain⟨x,hx⟩:∃x,S.l[k]? =some x:=⟨S.l[k]'(by have:=HN.out;omega),List.getElem?_eq_getElem _⟩
   have HRW:=lS.out
   rw[←HN.out]at HRW
   obtain⟨g,off,rfl,hgw,_,hcell⟩:=HRW.at_ (by omega)
   obtain⟨ha,hcp,q,r0,r1,r2,r3,r4,r5,r6⟩:=DX.out.at_ hx
   have q0:wr.cell? ⟨g,off+k*3,none⟩=some (.int .i64 x.id):=(MV.out.cell (p:=⟨g,off+k*3,none⟩) hgw.2).trans ((hcell (k*3) (by omega)).trans r0)
   have q1:wr.cell? ⟨g,off+k*3+1,none⟩=some (.slice ha x.hash.length hcp):=(MV.out.cell (p:=⟨g,off+k*3+1,none⟩) hgw.2).trans ((hcell (k*3+1) (by omega)).trans r1)
   have q2:wr.cell? ⟨g,off+k*3+2,none⟩=some (ptr q):=(MV.out.cell (p:=⟨g,off+k*3+2,none⟩) hgw.2).trans ((hcell (k*3+2) (by omega)).trans r2)
   have hid:=HV.out.each x (List.mem_of_getElem? hx)
   have hci:=Dq x.id hid.1.1 hid.1.2
   have hsb:=KA (HKK.out _ r6).1 (HKK.out _ r6).2
   have hcb:=Dq ((bZ x.t).length:Int) (by omega) (by omega)
   have HX:=Lib.hid hx
   have HR4:=Lib.hid r4
   have EK:=Lib.hid r5
   have WO:=Lib.hid r6
   have i0:(0:Int)≤(k:Int):=by omega
   have i1:(k:Int)<(n:Int):=by omega
   have hs0:=MV.out.size
   clear hx r0 r1 r2 r4 r5 r6 hcell HRW
   go_wp2_with fail
   have hub:=wall wr (.cells #[.int .i64 x.id, .slice ha x.hash.length hcp,ptr q] 84)
   have hu1:=(MapKept.heap_alloc wr (.cells #[.int .i64 x.id, .slice ha x.hash.length hcp,ptr q] 84)).1
   (with_reducible refine(ED (EK.out.grow (MV.out.trans (Below.mono hub hs0))) (HKK.out _ WO.out).1 (HKK.out _ WO.out).2).mono ?_)
   rintro e u2 ⟨ba,bn,bc,rfl,hbc,hbr,hb6⟩
   have hbl2:bn=(bZ x.t).length:=by have:=hbr.length;simpa using this.symm
   subst hbl2
   have hyl:=kJ HY.out.own
   have hxl:=HY.out.lt
   have hu2:=(hb6.block wr.heap.size (by simp)).trans hu1
   have hbu:Below wr.heap.size wr u2:=hub.trans (hb6.mono hub.size)
   have xK:=Lib.hid (hbr.mono (S':=fun b=>wr.heap.size≤b∧b<u2.heap.size) fun b hb=>⟨Nat.le_trans hub.size hb.1,hb.2⟩)
   have HAS:Hid (Aside w.heap.size y wr.heap.size u2.heap.size):=fun b h1 h2=>⟨by omega,fun h9=>by have:=hyl b h9;omega⟩
   have Xv:=Lib.hid (HY.out.below hbu)
   have DR:=Lib.hid (MV.out.trans (hbu.mono hs0))
   have HU2:=Lib.hid hu2
   have hwu:wr.heap.size<u2.heap.size:=(Array.getElem?_eq_some_iff.1 hu2).1
   have v0:u2.cell? ⟨wr.heap.size,0,none⟩=some (.int .i64 x.id):=by simp[World.cell?,hu2]
   have v1:u2.cell? ⟨wr.heap.size,1,none⟩=some (.slice ha x.hash.length hcp):=by simp[World.cell?,hu2]
   have hl6:(pre++(S.l.take k).flatMap gJ).length≤85001000:=by rw[List.length_append];omega
   obtain⟨b0,hb0⟩:∃b0,b0=pre++(S.l.take k).flatMap gJ:=⟨_,rfl⟩
   rw[←hb0]at hl6
   have WQ:Hid (bS w.heap.size u2 w.heap.size y b0):=by rw[hb0];exact Xv
   have G7:=Lib.hid hb0
   clear hub hu1 hbr hb6 hyl hu2 hbu q0 q1 q2 HY Xv hb0
   go_wp2_with fail
   (with_reducible refine(uG WQ.out x.id hid.1.1 (by omega) (by omega)).mono ?_)
   rintro e u3 ⟨rfl,y3,Ep⟩
   obtain⟨has3,hk3⟩:=HAS.out.more Ep (Nat.le_refl _)
   have hu3:=(hk3 wr.heap.size (Nat.le_refl _) hwu).trans HU2.out
   have TQ:=Lib.hid Ep.1
   have wS:=Lib.hid (DR.out.trans (Ep.low WQ.out))
   have HAS3:=Lib.hid has3
   have hs3:=Ep.2.1.size
   have HBR3:=Lib.hid (xK.out.kept hs3 (fun b hb _=>hk3 b hb.1 hb.2))
   have v1':u3.cell? ⟨wr.heap.size,1,none⟩=some (.slice ha x.hash.length hcp):=by simp[World.cell?,hu3]
   clear Ep has3 hk3 hu3 v0 v1 WQ xK
   go_wp2_with fail
   have hhr:=HR4.out.below wS.out (Nat.le_refl _)
   (with_reducible refine(uH TQ.out ha x.hash.length hcp x.hash hhr (fun b hb=>⟨by omega,fun h9=>by have:=bY TQ.out.own b h9;omega⟩) (by omega) (by simp[bO];omega) (by omega)).mono ?_)
   rintro e u4 ⟨rfl,y4,Er⟩
   obtain⟨has4,hk4⟩:=HAS3.out.more Er hs3
   have hs4:=Er.2.1.size
   have X7:=Lib.hid Er.1
   have vK:=Lib.hid (wS.out.trans (Er.low TQ.out))
   have HAS4:=Lib.hid has4
   have HBR4:=Lib.hid (HBR3.out.kept hs4 (fun b hb _=>hk4 b hb.1 hb.2))
   clear Er has4 hk4 v1' hhr TQ HBR3
   go_wp2_with fail
   (with_reducible refine(uG X7.out ((bZ x.t).length:Int) (by omega) (by omega) (by simp[bO];omega)).mono ?_)
   rintro e u5 ⟨rfl,y5,Gz⟩
   obtain⟨has5,hk5⟩:=HAS4.out.more Gz (by omega)
   have hs5:=Gz.2.1.size
   have HW9:=Lib.hid Gz.1
   have AB:=Lib.hid (vK.out.trans (Gz.low X7.out))
   have HBR5:=Lib.hid (HBR4.out.kept hs5 (fun b hb _=>hk5 b hb.1 hb.2))
   clear Gz has5 hk5 X7 HBR4
   go_wp2_with fail
   (with_reducible refine(Ja HW9.out ba (bZ x.t).length bc (bZ x.t) HBR5.out (by simp[bO];omega) (by omega)).mono ?_)
   rintro e u6 ⟨rfl,y6,Nw⟩
   have HWA:=Lib.hid Nw.1
   have tH:=Lib.hid (AB.out.trans (Nw.low HW9.out))
   clear Nw HW9 HBR5
   go_wp2_with fail
   go_roundw
   case rel=>
    refine⟨k+1,by go_num,by omega,y6,?_,tH.out⟩
    have h9:=HWA.out
    rw[G7.out]at h9
    rw[LY HX.out,gJ,lF]
    simpa only[List.append_assoc]using h9
   case measure=>simp[intOf];omega
  ·have hd:decide ((k:Int)<(n:Int))=false:=by simp;omega
   obtain rfl:k=n:=by omega
   have hkl:S.l.take k=S.l:=List.take_of_length_le (by have:=HN.out;omega)
   rw[hkl]at HY hbl
   go_wp2_with fail
   have e:pre++S.l.flatMap gJ=eD S:=by
    rw[HPRE.out,HN.out]
    unfold eD lF
    simp
   have hp0:0<(eD S).length:=by unfold eD;rw[List.length_append,List.length_append,List.length_append,bO];omega
   have vJ:=Lib.hid (Nv HY.out (by rw[List.length_append];omega) (by rw[e];exact hp0))
   rw[e]at vJ
   clear e hp0
   (with_reducible refine vJ.out.mono ?_)
   rintro e u2 ⟨ba,bc,rfl,hown,hb6⟩
   have HOW:=Lib.hid hown
   have DR:=Lib.hid hb6
   clear hown hb6
   go_wp2_with fail
   go_ret
   have hs0:=MV.out.size
   exact⟨ba,bc,rfl,Kh HOW.out hs0,MV.out.trans (DR.out.mono hs0)⟩
end
section
variable {W w:World} {o:Mark} {i s:Nat} {S:jc}
end
end Go.Proofs.YtjnhnlabpccgjaaGreat
