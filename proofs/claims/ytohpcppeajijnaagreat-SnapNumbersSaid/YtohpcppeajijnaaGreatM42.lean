/- permafrostref13: Take. package snap: Save. -/
import Derived.Test.YtohpcppeajijnaaGreatM39
import Derived.Test.YtohpcppeajijnaaGreatM40
import Derived.Test.YtohpcppeajijnaaGreatM41
import Derived.Test.YtohpcppeajijnaaGreatM24
import Derived.Test.YtohpcppeajijnaaGreatM20
import Derived.Test.YtohpcppeajijnaaGreatM17
import Derived.Test.YtohpcppeajijnaaGreatM15
import Derived.Test.YtohpcppeajijnaaGreatM19
import Derived.Test.YtohpcppeajijnaaGreatM23
namespace Go.Proofs.YtohpcppeajijnaaGreat
open Go.ChangeShapes Go.WideShapes Go.ChangeAt Go.RowKit
set_option linter.unusedVariables false
set_option linter.unusedSimpArgs false
structure G6 (t:TypeId) (k:Nat) (w u:World) (v:Value) (n:Nat) (x:List Value) (a:Option Addr) (m:Nat) (y:List Value):Prop where
 o:u.ownsRow w.heap.size t k v n x
 r:ak (fun b=>v.ownBlock≠some b∧b<u.heap.size) u a m y
 b:Below w.heap.size w u
section
variable {t t2:TypeId} {k:Nat} {w u u':World} {v v':Value} {n n':Nat} {x x':List Value} {a:Option Addr} {m:Nat} {y:List Value}
theorem G6.start (w:World):G6 t k w w.drew (.slice none 0 0) 0 [] none 0 []:=⟨⟨by simp, .inl ⟨rfl,rfl⟩⟩,ak.nil _ _ _,(Below.refl _ _).drew⟩
theorem G6.lit (h:G6 t k w u v n x a m y):G6 t k w (u.alloc (.cells #[] t)) (.slice (some ⟨u.heap.size,0,none⟩) 0 0) 0 [] a m y:=
 ⟨m_ (MapKept.heap_alloc u _).1 h.b.size,h.r.move (by simp) fun b hb hbw=>⟨⟨fun e=>by simp[Value.ownBlock]at e;omega,by simp;omega⟩,Below.heap_alloc u _ b hbw⟩,h.b.trans ((wall u _).mono h.b.size)⟩
theorem G6.one (h:G6 t k w u v n x a m y) (vs:List Value) (hm:vs.length≤maxLen):G6 t k w (u.alloc (.cells vs.toArray t2)) v n x (some ⟨u.heap.size,0,none⟩) vs.length vs:=
 ⟨lJ h.o _,(fC (w:=u) vs t2 hm).mono fun b (hb:b=u.heap.size)=>⟨fun e=>by have:=jF h.o b e;omega,by simp;omega⟩,h.b.trans ((wall u _).mono h.b.size)⟩
theorem G6.app (h:G6 t k w u v n x a m y) (ho:u'.ownsRow w.heap.size t k v' n' x') (hg:u.grownBy u' v.ownBlock) (hat:v'.ownBlock=v.ownBlock∨v'.ownBlock=some u.heap.size):G6 t k w u' v' n' x' a m y:=by
 refine⟨ho,h.r.move hg.size fun b hb hbw=>⟨⟨fun e=> ?_,Nat.lt_of_lt_of_le hbw hg.size⟩,hg.block b hbw fun e=>hb.1 e.symm⟩,below_grown (B:=0) h.b h.o hg⟩
 rcases hat with h1|h1
 ·exact hb.1 (h1▸e)
 ·rw[h1]at e
  cases e
  omega
end
theorem Rb {w:World} {base:Nat} {e:TypeId} {size:Nat} {a:Option Addr} {m c n:Nat} {xs:List Value} (h:w.ownsRow base e size (.slice a m c) n xs):n≤c:=by
 obtain⟨a',c',he,hle⟩:=bQ h
 cases he
 exact hle
section
variable {W w:World} {o:Mark} {i j s r:Nat} {S:iC} {T:aI}
theorem G7 {w8 w9:World} {a8 a9:Option Addr} {c8 c9 q:Nat} {vals:List Value} {x:dQ} (hM:Marks W o w) (hi:i≠0) (hos:o s=i) (hsw:s<w.heap.size)
  (hO:bT o w vals S.l) (hb:Below w.heap.size w w8) (hK:Keeps (fun b=>b=s) w8 w9)
  (hh:w9.heap[s]? =some (.cells #[.int .i64 (S.next+1), .slice a9 x.hash.length c9, .slice a8 (S.l.length+1) c8] 160 (0,0)))
  (h4:S.l.length+1≤c8) (hrow:ak (fun b=>w.heap.size≤b∧b<w8.heap.size) w8 a8 ((S.l.length+1)*3) (vals++[.int .i64 x.id, .slice a9 x.hash.length c9,ptr q]))
  (h7:x.hash.length≤c9) (h8:ak (fun b=>w.heap.size≤b∧b<w8.heap.size) w8 a9 x.hash.length (x.hash.map bv)) (hT:gM o 0 w8 q x.t) (hok:dR x.t):
  Step o (fun k=>k=i) w o w9∧fM o i w9 s ⟨S.l++[x],S.next+1,x.hash⟩:=by
 have VE:Keeps (fun b=>b=s) w w9:=(fU hb).trans hK fun x _ hx=>hx
 have hst:=Bo (i:=i) hM hos VE
 have hi0:¬(fun j=>j=i) 0:=fun e=>hi e.symm
 have hmv:∀(a:Option Addr) (n:Nat) (vs:List Value),ak (fun b=>w.heap.size≤b∧b<w8.heap.size) w8 a n vs→ak (Free o w9) w9 a n vs:=fun a n vs h=>
  Bp (B:=w.heap.size) hM (Nat.le_refl _) (h.move hK.size fun b hb' hbw=>⟨⟨hb'.1,Nat.lt_of_lt_of_le hb'.2 hK.size⟩,hK.block b hbw fun e=>by have:=hb'.1;omega⟩)
 have hrf:gM o 0 w9 q x.t:=by
  obtain⟨F,hR,hr,hF⟩:=hT
  refine⟨F,hR.keeps hK fun b hb' e=> ?_,hr,hF⟩
  by_cases hbq:b=q
  ·rw[←hbq,e,hos]at hr
   exact hi hr
  ·have:=hF b hb' hbq
   rw[e,hos]at this
   exact hi this
 refine⟨hst,⟨a9,c9,a8,c8,vals++[.int .i64 x.id, .slice a9 x.hash.length c9,ptr q],?_,hos,Nat.lt_of_lt_of_le hsw VE.size,?_,?_,(hO.step hi0 hst).append ⟨_,[],(List.append_nil _).symm,⟨a9,c9,q,rfl,h7,hmv _ _ _ h8,hrf,hok⟩,rfl⟩,h7,hmv _ _ _ h8⟩⟩
 ·simpa using hh
 ·simpa using h4
 ·simpa using hmv _ _ _ hrow
set_option maxRecDepth 100000 in
set_option maxHeartbeats 8000000 in
theorem G8 (hS:fM o i w s S) (hR:gM o j w r T) (hM:Marks W o w) (hi:i≠0) (hT:dR T) (zY:S.l.length≤8) (hla:S.last.length≤64) (hnx:0≤S.next) (Pz:S.next≤1000000000):
  Calls Tryz.prog 99 #[ptr s,ptr r] w fun e w'=>e= .returned (.tuple #[.int .i64 (bW S T).1.1, .int .i64 (bW S T).1.2])∧Step o (fun k=>k=i) w o w'∧fM o i w' s (bW S T).2:=by
 have HS:=Lib.hid hS
 have HM:=Lib.hid hM
 obtain⟨la,lc,a,c,vals,h1,h2,h3,h4,h5,h6,h7,h8⟩:=hS.at_
 have HH:=Lib.hid h1
 have uR:=Lib.hid h6
 have M4:=Lib.hid h8
 have PD:=Lib.hid h7
 have MW:=Lib.hid h2
 obtain⟨n,hn⟩:∃n,n=S.l.length:=⟨_,rfl⟩
 have HN:=Lib.hid hn
 obtain⟨m,hm⟩:∃m,m=S.last.length:=⟨_,rfl⟩
 have L8:=Lib.hid hm
 obtain⟨nx,qy⟩:∃nx,nx=S.next:=⟨_,rfl⟩
 have qx:=Lib.hid qy
 rw[←hn,←hm,←qy]at h1
 rw[←hn]at h4 h5 zY
 rw[←hm]at hla
 rw[←qy]at hnx Pz
 have gZ:=Lib.hid h5
 have uI:Hid (∀w',Below w.heap.size w w'→w'.cell? ⟨s,0,none⟩=some (.int .i64 nx)∧w'.cell? ⟨s,1,none⟩=some (.slice la m lc)∧w'.cell? ⟨s,2,none⟩=some (.slice a n c)∧w'.frozen? ⟨s,2,none⟩=false):=fun w' hb=>by
  have hbb:=(hb.block s h3).trans h1
  refine⟨?_,?_,?_,?_⟩<;>simp[World.cell?,World.frozen?,hbb]
 obtain⟨q0,q1,q2,qf⟩:=uI.out w (Below.refl _ _)
 by_cases hfull:8≤n
 ·have hd:decide (8≤n)=true:=by simpa using hfull
  have hfi:(8:Int)≤(n:Int):=by omega
  have e1:bW S T=((0,4),S):=by unfold bW;rw[if_pos (by rw[←HN.out];exact hfull)]
  rw[e1]
  clear hS hM h1 h2 h5 h6 h7 h8 hn hm qy hR e1
  go_enter Tryz.func99,Tryz.ntmps99
  go_wp2_with fail
  go_ret2
  exact⟨rfl,Step.grow HM.out (Below.refl _ _),HS.out⟩
 ·have hd:decide (8≤n)=false:=by simpa using hfull
  have hfi:¬(8:Int)≤(n:Int):=by omega
  obtain⟨sv,hsv⟩:∃sv,sv=fq (bM T):=⟨_,rfl⟩
  have e1:bW S T=((nx,0),⟨S.l++[⟨S.next,iG (S.last++sv),bM T⟩],S.next+1,iG (S.last++sv)⟩):=by unfold bW;rw[if_neg (by rw[←HN.out];exact hfull),qy,hsv]
  rw[e1]
  have PE:=hT.bM
  have hsl:=vT PE
  rw[←hsv]at hsl
  obtain⟨i8,DF⟩:∃i,Tryz.prog.info? 5=some i∧i.zero=some (.int .u8 0)∧i.size=1∧i.bytes=1:=info_parts (by kernel_rfl)
  obtain⟨iO,Uu⟩:∃j,Tryz.prog.info? 162=some j∧j.zero=some (.agg #[.int .i64 0, .slice none 0 0, .pointer none])∧j.size=3∧j.bytes=40:=info_parts (by kernel_rfl)
  have HI:=Lib.hid DF
  have pU:=Lib.hid Uu
  have LZ:=Lib.hid PE
  have CX:=Lib.hid hsv
  have HCM:=Lib.hid (oV hR hM hT)
  have HIN:=Lib.hid hi
  clear hS hM h1 h2 h5 h6 h7 h8 hn hm qy hR e1 hT PE DF Uu hsv hi
  go_enter Tryz.func99,Tryz.ntmps99
  go_wp2_with fail
  (with_reducible refine HCM.out.mono ?_)
  rintro e w1 ⟨q,rfl,hT1,hb1⟩
  have HT1:=Lib.hid hT1
  have HB1:=Lib.hid hb1
  have hs1:=hb1.size
  have JE:Hid (∀u,Below w1.heap.size w1 u→Calls Tryz.prog 32 #[ptr q] u (dS u sv)):=fun u hb=>by
   obtain⟨F,hF,-,-⟩:=hT1.grow hb
   have h9:=yL u hF LZ.out
   rw[←CX.out]at h9
   exact h9
  have YS:=Lib.hid (M4.out.below hb1 (Nat.le_refl _))
  have YT:Hid (ak (Free o w) (w1.alloc (.cells #[] 5)) la m (S.last.map bv)):=by
   rw[L8.out]
   exact YS.out.below (wall w1 _) (by omega)
  obtain⟨z0,z1,z2,zf⟩:=uI.out w1 hb1
  have y1:=((wall w1 (.cells #[] 5)).cell (p:=⟨s,1,none⟩) (show s<w1.heap.size by omega)).trans z1
  clear hT1 hb1 q0 q1 q2 qf z0 z2 zf
  go_wp2_with (at_builtin;go_loud (refine aO rfl _ _ 39 rfl w1.heap.size 5 i8 _ 1 Tryz.underlying39 HI.out.1 HI.out.2.1 HI.out.2.2.1 HI.out.2.2.2 rfl (.slice (some ⟨w1.heap.size,0,none⟩) 0 0) 0 ([]) rfl (m_ (MapKept.heap_alloc w1 _).1 (Nat.le_refl _)) la m lc (S.last.map bv) rfl YT.out (bU _) (by unfold maxLen;omega) (by omega) (by simp) ?_;intro A2 c2 u2 hown hg _ hat;simp only[Nat.zero_add,List.nil_append]at hown hat⊢;have xq:=Lib.hid hown;have HB2:=Lib.hid (dN hg (pO w1) (wall w1 _));clear hown hg hat))
  (with_reducible refine(JE.out _ HB2.out).mono ?_)
  rintro e w3 ⟨a3,c3,rfl,hown3,hb3⟩
  have UL:=Lib.hid (own_below xq.out hb3)
  have HR3:=Lib.hid (bR hown3)
  have HB3:=Lib.hid (HB2.out.trans (hb3.mono HB2.out.size))
  obtain⟨n3,Ra⟩:∃n3,n3=sv.length:=⟨_,rfl⟩
  rw[←Ra]at HR3 hsl⊢
  have HN3:=Lib.hid Ra
  clear hown3 hb3 Ra
  go_wp2_with (at_builtin;go_loud (refine aO rfl _ _ 39 rfl w1.heap.size 5 i8 _ 1 Tryz.underlying39 HI.out.1 HI.out.2.1 HI.out.2.2.1 HI.out.2.2.2 rfl (.slice A2 m c2) m (S.last.map bv) rfl UL.out a3 n3 c3 (sv.map bv) rfl HR3.out (bU _) (by unfold maxLen;omega) (by omega) HB3.out.size ?_;intro A4 c4 u4 hown hg _ hat;have JC:=Lib.hid hown;have kS:=Lib.hid (dN hg (fun b hb=>bC UL.out b hb) HB3.out);clear hown hg hat))
  have VN:Hid (ak (fun x=>w1.heap.size≤x∧x<u4.heap.size) u4 A4 (m+n3) ((S.last++sv).map bv)):=by
   have h9:=(ak.ku JC.out).2
   rw[←List.map_append]at h9
   exact h9
  (with_reducible refine(Bu A4 (m+n3) c4 (S.last++sv) u4 VN.out (by omega)).mono ?_)
  rintro e w5 ⟨a5,c5,rfl,hown5,hb5⟩
  have C8:=Lib.hid ((bR hown5).mono (S':=fun b=>w.heap.size≤b∧b<w5.heap.size) fun b hb=>⟨by have:=kS.out.size;omega,hb.2⟩)
  have HC5:Hid ((iG (S.last++sv)).length≤c5):=Rb hown5
  have lX:=Lib.hid (HB1.out.trans ((kS.out.trans (hb5.mono kS.out.size)).mono hs1))
  have Er:=Lib.hid ((HT1.out.grow (kS.out.trans (hb5.mono kS.out.size))))
  obtain⟨n5,YU⟩:∃n5,n5=(iG (S.last++sv)).length:=⟨_,rfl⟩
  rw[←YU]at C8 HC5⊢
  have H6:=Lib.hid YU
  have gq:Hid (∀u,Below w5.heap.size w5 u→u.cell? ⟨s,0,none⟩=some (.int .i64 nx)∧u.cell? ⟨s,1,none⟩=some (.slice la m lc)∧u.cell? ⟨s,2,none⟩=some (.slice a n c)∧u.frozen? ⟨s,2,none⟩=false):=fun u hb=>uI.out u (lX.out.trans (hb.mono lX.out.size))
  have lH:Hid (∀u,Below w5.heap.size w5 u→ak (Free o w) u a (n*3) vals):=fun u hb=>gZ.out.below (lX.out.trans (hb.mono lX.out.size)) (Nat.le_refl _)
  have GL:=Lib.hid uR.out.one
  have wX:=Lib.hid (G6.start (t:=162) (k:=3) w5)
  have MX:s<w5.heap.size:=by have:=lX.out.size;omega
  have hw5:=lX.out.size
  have Lm:Hid (∀(u u9:World) (A8:Option Addr) (m8 c8:Nat) (av:Option Addr) (mm:Nat) (yy:List Value),G6 162 3 w5 u (.slice A8 m8 c8) (n+1) (vals++[.int .i64 nx, .slice a5 n5 c5,ptr q]) av mm yy→Keeps (fun b=>b=s) u u9→u9.heap[s]? =some (.cells #[.int .i64 (nx+1), .slice a5 n5 c5, .slice A8 (n+1) c8] 160 (0,0))→Step o (fun k=>k=i) w o u9∧fM o i u9 s ⟨S.l++[⟨S.next,iG (S.last++sv),bM T⟩],S.next+1,iG (S.last++sv)⟩):=fun u u9 A8 m8 c8 av mm yy h hK hh=>by
   obtain⟨e8,hcc,-,hrow⟩:=ak.jS h.o (by unfold maxLen;omega)
   subst e8
   have hbu:=lX.out.trans (h.b.mono hw5)
   refine G7 (x:=⟨S.next,iG (S.last++sv),bM T⟩) (vals:=vals) (q:=q) (a8:=A8) (c8:=c8) (a9:=a5) (c9:=c5) HM.out HIN.out MW.out h3 uR.out hbu hK ?_ ?_ ?_ ?_ ?_ (Er.out.grow h.b) LZ.out
   ·rw[←H6.out,←qx.out,←HN.out];exact hh
   ·rw[←HN.out];exact hcc
   ·rw[←H6.out,←qx.out,←HN.out];exact hrow.mono fun b hb=>⟨by omega,hb.2⟩
   ·rw[←H6.out];exact HC5.out
   ·rw[←H6.out];exact C8.out.move h.b.size fun b hb hbw=>⟨⟨hb.1,Nat.lt_of_lt_of_le hb.2 h.b.size⟩,h.b.block b hbw⟩
  have YV:Hid (∀u,Below w5.heap.size w5 u→u.heap[s]? =some (.cells #[.int .i64 nx, .slice la m lc, .slice a n c] 160 (0,0))):=fun u hb=>by
   rw[qx.out,L8.out,HN.out]
   exact((lX.out.trans (hb.mono hw5)).block s h3).trans HH.out
  clear hown5 hb5 YU z1 y1
  go_wp2_with fail
  refine wp_region_noPanic ?_
  refine aH (last:=18) (S:=(fun w'=>w'.cell? ⟨s,0,none⟩=some (.int .i64 nx)∧w'.cell? ⟨s,1,none⟩=some (.slice la m lc)∧w'.cell? ⟨s,2,none⟩=some (.slice a n c)∧w'.frozen? ⟨s,2,none⟩=false)) (by kernel_rfl) ?_ (fun hS=> ?_)
  ·exact gq.out _ wX.out.b
  refine aC 0 (hS:=hS) (h:= ?_)
  refine aC 2 (hS:=hS) (h:= ?_)
  refine aC 3 (hS:=hS) (h:= ?_)
  refine aC 4 (hS:=hS) (h:= ?_)
  refine aC 5 (hS:=hS) (h:= ?_)
  refine aC 7 (hS:=hS) (h:= ?_)
  refine aC 8 (hS:=hS) (h:= ?_)
  refine aC 9 (hS:=hS) (h:= ?_)
  refine aC 10 (hS:=hS) (h:= ?_)
  refine aC 11 (hS:=hS) (h:= ?_)
  refine aC 12 (hS:=hS) (h:= ?_)
  refine aC 13 (hS:=hS) (h:= ?_)
  refine aj (rs:=[1,14]) (by kernel_rfl) (by simp) ?_
  refine ah.cons (o:= ?Yg) ?Ku (fun K hK=> ?YW) (ah.cons (o:= ?Yi) ?Kv (fun K hK=> ?UM) ah.nil)
  case Ku=>simp only[List.getElem?_toArray,List.getElem?_cons_succ,List.getElem?_cons_zero];rfl
  case Kv=>simp only[List.getElem?_toArray,List.getElem?_cons_succ,List.getElem?_cons_zero];rfl
  case YW=>
   go_simp
   have BS:=wX.out.lit
   try simp only[World.size_alloc]at BS
   refine hK.out _ _ (fun _=>gq.out _ BS.b) (fun hS=> ?_)
   replace hS:=hS (by decide)
   clear hK K
   try simp only[Act.put,List.setIfInBounds_toArray,List.set_cons_zero,List.set_cons_succ]
   refine aj (rs:=[6,14]) (by kernel_rfl) (by simp) ?_
   refine ah.cons (o:= ?Yk) ?Kw (fun K hK=> ?Qi) (ah.cons (o:= ?Ym) ?Ky (fun K hK=> ?UN) ah.nil)
   case Kw=>simp only[List.getElem?_toArray,List.getElem?_cons_succ,List.getElem?_cons_zero];rfl
   case Ky=>simp only[List.getElem?_toArray,List.getElem?_cons_succ,List.getElem?_cons_zero];rfl
   case Qi=>
    refine aA (by rfl) (.tmp 27) (.tmp 31) 158 (by rfl) w5.heap.size 162 iO _ 3 40 Tryz.underlying158 pU.out.1 pU.out.2.1 pU.out.2.2.1 pU.out.2.2.2 rfl (by omega) _ 0 [] (by rfl) BS.o _ n _ (vals) (by rfl) (lH.out _ BS.b) GL.out (by unfold maxLen;omega) (by omega) BS.b.size ?_
    intro A6 c6 u6 hown hgr hat
    have Qj:=BS.app hown hgr hat
    simp only[Nat.zero_add,List.nil_append]at Qj⊢
    clear hown hgr hat
    refine hK.out _ _ (fun _=>gq.out _ Qj.b) (fun hS=> ?_)
    replace hS:=hS (by decide)
    clear hK K
    try simp only[Act.put,List.setIfInBounds_toArray,List.set_cons_zero,List.set_cons_succ]
    refine dh 14 (h:=fun K hK=> ?_)
    go_simp
    have RQ:=Qj.one (t2:=162) [.int .i64 nx, .slice a5 n5 c5,ptr q] (by simp[maxLen])
    try simp only[World.size_alloc]at RQ
    refine hK.out _ _ (fun _=>gq.out _ RQ.b) (fun hS=> ?_)
    replace hS:=hS (by decide)
    clear hK K
    try simp only[Act.put,List.setIfInBounds_toArray,List.set_cons_zero,List.set_cons_succ]
    refine aj (rs:=[15]) (by kernel_rfl) (by simp) ?_
    refine ah.cons (o:= ?o1) ?ho1 (fun K hK=> ?_) ah.nil
    case ho1=>simp only[List.getElem?_toArray,List.getElem?_cons_succ,List.getElem?_cons_zero];rfl
    have Bv:ak _ _ _ (1*3) [.int .i64 nx, .slice a5 n5 c5,ptr q]:=RQ.r
    refine aA (by rfl) (.tmp 32) (.tmp 40) 158 (by rfl) w5.heap.size 162 iO _ 3 40 Tryz.underlying158 pU.out.1 pU.out.2.1 pU.out.2.2.1 pU.out.2.2.2 rfl (by omega) _ n vals (by rfl) RQ.o _ 1 _ ([.int .i64 nx, .slice a5 n5 c5,ptr q]) (by rfl) Bv (by simp[Value.oneCell']) (by unfold maxLen;omega) (by omega) RQ.b.size ?_
    intro wS c15 yM hown hgr hat
    have YX:=RQ.app hown hgr hat
    clear hown hgr hat
    refine hK.out _ _ (fun _=>gq.out _ YX.b) (fun hS=> ?_)
    replace hS:=hS (by decide)
    clear hK K
    try simp only[Act.put,List.setIfInBounds_toArray,List.set_cons_zero,List.set_cons_succ]
    refine aC 16 (hS:=hS) (h:= ?_)
    refine aC 17 (hS:=hS) (h:= ?_)
    refine dh 18 (h:=fun K hK=> ?_)
    go_simp
    refine hK.out _ _ (fun h=>absurd rfl h) (fun hS=> ?_)
    clear hS hK K
    try simp only[Act.put,List.setIfInBounds_toArray,List.set_cons_zero,List.set_cons_succ]
    refine aG (by kernel_rfl) ?_ _
    refine NoPanic.normal ?_
    have OG:=Lib.hid YX
    have zw:(yM.setCell ⟨s,2,none⟩ (.slice wS (n+1) c15)).heap[s]? =some (.cells #[.int .i64 nx, .slice la m lc, .slice wS (n+1) c15] 160 (0,0)):=aL (YV.out _ OG.out.b)
    have Ou:Hid (Keeps (fun b=>b=s) yM (yM.setCell ⟨s,2,none⟩ (.slice wS (n+1) c15))):=Lib.hid (Keeps.fE yM ⟨s,2,none⟩ (.slice wS (n+1) c15))
    generalize yM.setCell ⟨s,2,none⟩ (.slice wS (n+1) c15)=w9 at*
    have p1:w9.cell? ⟨s,1,none⟩=some (.slice la m lc):=by simp[World.cell?,zw]
    have f1:w9.frozen? ⟨s,1,none⟩=false:=by simp[World.frozen?,zw]
    have og:(w9.setCell ⟨s,1,none⟩ (.slice a5 n5 c5)).heap[s]? =some (.cells #[.int .i64 nx, .slice a5 n5 c5, .slice wS (n+1) c15] 160 (0,0)):=aL zw
    have Lp:Hid (Keeps (fun b=>b=s) yM (w9.setCell ⟨s,1,none⟩ (.slice a5 n5 c5))):=Ou.out.trans (Keeps.fE w9 ⟨s,1,none⟩ (.slice a5 n5 c5)) fun x _ hx=>hx
    have p0:(w9.setCell ⟨s,1,none⟩ (.slice a5 n5 c5)).cell? ⟨s,0,none⟩=some (.int .i64 nx):=by simp[World.cell?,og]
    have f0:(w9.setCell ⟨s,1,none⟩ (.slice a5 n5 c5)).frozen? ⟨s,0,none⟩=false:=by simp[World.frozen?,og]
    have wT:((w9.setCell ⟨s,1,none⟩ (.slice a5 n5 c5)).setCell ⟨s,0,none⟩ (.int .i64 (nx+1))).heap[s]? =some (.cells #[.int .i64 (nx+1), .slice a5 n5 c5, .slice wS (n+1) c15] 160 (0,0)):=aL og
    have p9:((w9.setCell ⟨s,1,none⟩ (.slice a5 n5 c5)).setCell ⟨s,0,none⟩ (.int .i64 (nx+1))).cell? ⟨s,0,none⟩=some (.int .i64 (nx+1)):=by simp[World.cell?,wT]
    have e1:IntKind.i64.wrap (nx+1)=nx+1:=IntWalk.i64_in _ (by omega)
    have e2:IntKind.i64.wrap (nx+1-1)=nx:=by rw[show nx+1-1=nx by omega];exact IntWalk.i64_in _ (by omega)
    have Lr:=Lib.hid wT
    clear zw og wT YX
    go_wp2_with fail
    go_ret2
    refine⟨rfl,?_⟩
    exact Lm.out _ _ _ _ _ _ _ _ OG.out (Lp.out.trans (Keeps.fE _ ⟨s,0,none⟩ _) fun x _ hx=>hx) Lr.out
   case UN=>
    go_simp
    have ED:=BS.one (t2:=162) [.int .i64 nx, .slice a5 n5 c5,ptr q] (by simp[maxLen])
    try simp only[World.size_alloc]at ED
    refine hK.out _ _ (fun _=>gq.out _ ED.b) (fun hS=> ?_)
    replace hS:=hS (by decide)
    clear hK K
    try simp only[Act.put,List.setIfInBounds_toArray,List.set_cons_zero,List.set_cons_succ]
    refine aj (rs:=[6]) (by kernel_rfl) (by simp) ?_
    refine ah.cons (o:= ?o2) ?ho2 (fun K hK=> ?_) ah.nil
    case ho2=>simp only[List.getElem?_toArray,List.getElem?_cons_succ,List.getElem?_cons_zero];rfl
    refine aA (by rfl) (.tmp 27) (.tmp 31) 158 (by rfl) w5.heap.size 162 iO _ 3 40 Tryz.underlying158 pU.out.1 pU.out.2.1 pU.out.2.2.1 pU.out.2.2.2 rfl (by omega) _ 0 [] (by rfl) ED.o _ n _ (vals) (by rfl) (lH.out _ ED.b) GL.out (by unfold maxLen;omega) (by omega) ED.b.size ?_
    intro A6 c6 u6 hown hgr hat
    have G9:=ED.app hown hgr hat
    simp only[Nat.zero_add,List.nil_append]at G9⊢
    clear hown hgr hat
    refine hK.out _ _ (fun _=>gq.out _ G9.b) (fun hS=> ?_)
    replace hS:=hS (by decide)
    clear hK K
    try simp only[Act.put,List.setIfInBounds_toArray,List.set_cons_zero,List.set_cons_succ]
    refine aj (rs:=[15]) (by kernel_rfl) (by simp) ?_
    refine ah.cons (o:= ?o3) ?ho3 (fun K hK=> ?_) ah.nil
    case ho3=>simp only[List.getElem?_toArray,List.getElem?_cons_succ,List.getElem?_cons_zero];rfl
    have Bv:ak _ _ _ (1*3) [.int .i64 nx, .slice a5 n5 c5,ptr q]:=G9.r
    refine aA (by rfl) (.tmp 32) (.tmp 40) 158 (by rfl) w5.heap.size 162 iO _ 3 40 Tryz.underlying158 pU.out.1 pU.out.2.1 pU.out.2.2.1 pU.out.2.2.2 rfl (by omega) _ n vals (by rfl) G9.o _ 1 _ ([.int .i64 nx, .slice a5 n5 c5,ptr q]) (by rfl) Bv (by simp[Value.oneCell']) (by unfold maxLen;omega) (by omega) G9.b.size ?_
    intro wS c15 yM hown hgr hat
    have Rc:=G9.app hown hgr hat
    clear hown hgr hat
    refine hK.out _ _ (fun _=>gq.out _ Rc.b) (fun hS=> ?_)
    replace hS:=hS (by decide)
    clear hK K
    try simp only[Act.put,List.setIfInBounds_toArray,List.set_cons_zero,List.set_cons_succ]
    refine aC 16 (hS:=hS) (h:= ?_)
    refine aC 17 (hS:=hS) (h:= ?_)
    refine dh 18 (h:=fun K hK=> ?_)
    go_simp
    refine hK.out _ _ (fun h=>absurd rfl h) (fun hS=> ?_)
    clear hS hK K
    try simp only[Act.put,List.setIfInBounds_toArray,List.set_cons_zero,List.set_cons_succ]
    refine aG (by kernel_rfl) ?_ _
    refine NoPanic.normal ?_
    have OG:=Lib.hid Rc
    have zw:(yM.setCell ⟨s,2,none⟩ (.slice wS (n+1) c15)).heap[s]? =some (.cells #[.int .i64 nx, .slice la m lc, .slice wS (n+1) c15] 160 (0,0)):=aL (YV.out _ OG.out.b)
    have Ou:Hid (Keeps (fun b=>b=s) yM (yM.setCell ⟨s,2,none⟩ (.slice wS (n+1) c15))):=Lib.hid (Keeps.fE yM ⟨s,2,none⟩ (.slice wS (n+1) c15))
    generalize yM.setCell ⟨s,2,none⟩ (.slice wS (n+1) c15)=w9 at*
    have p1:w9.cell? ⟨s,1,none⟩=some (.slice la m lc):=by simp[World.cell?,zw]
    have f1:w9.frozen? ⟨s,1,none⟩=false:=by simp[World.frozen?,zw]
    have og:(w9.setCell ⟨s,1,none⟩ (.slice a5 n5 c5)).heap[s]? =some (.cells #[.int .i64 nx, .slice a5 n5 c5, .slice wS (n+1) c15] 160 (0,0)):=aL zw
    have Lp:Hid (Keeps (fun b=>b=s) yM (w9.setCell ⟨s,1,none⟩ (.slice a5 n5 c5))):=Ou.out.trans (Keeps.fE w9 ⟨s,1,none⟩ (.slice a5 n5 c5)) fun x _ hx=>hx
    have p0:(w9.setCell ⟨s,1,none⟩ (.slice a5 n5 c5)).cell? ⟨s,0,none⟩=some (.int .i64 nx):=by simp[World.cell?,og]
    have f0:(w9.setCell ⟨s,1,none⟩ (.slice a5 n5 c5)).frozen? ⟨s,0,none⟩=false:=by simp[World.frozen?,og]
    have wT:((w9.setCell ⟨s,1,none⟩ (.slice a5 n5 c5)).setCell ⟨s,0,none⟩ (.int .i64 (nx+1))).heap[s]? =some (.cells #[.int .i64 (nx+1), .slice a5 n5 c5, .slice wS (n+1) c15] 160 (0,0)):=aL og
    have p9:((w9.setCell ⟨s,1,none⟩ (.slice a5 n5 c5)).setCell ⟨s,0,none⟩ (.int .i64 (nx+1))).cell? ⟨s,0,none⟩=some (.int .i64 (nx+1)):=by simp[World.cell?,wT]
    have e1:IntKind.i64.wrap (nx+1)=nx+1:=IntWalk.i64_in _ (by omega)
    have e2:IntKind.i64.wrap (nx+1-1)=nx:=by rw[show nx+1-1=nx by omega];exact IntWalk.i64_in _ (by omega)
    have Lr:=Lib.hid wT
    clear zw og wT Rc
    go_wp2_with fail
    go_ret2
    refine⟨rfl,?_⟩
    exact Lm.out _ _ _ _ _ _ _ _ OG.out (Lp.out.trans (Keeps.fE _ ⟨s,0,none⟩ _) fun x _ hx=>hx) Lr.out
  case UM=>
   go_simp
   have Gm:=wX.out.one (t2:=162) [.int .i64 nx, .slice a5 n5 c5,ptr q] (by simp[maxLen])
   try simp only[World.size_alloc]at Gm
   refine hK.out _ _ (fun _=>gq.out _ Gm.b) (fun hS=> ?_)
   replace hS:=hS (by decide)
   clear hK K
   try simp only[Act.put,List.setIfInBounds_toArray,List.set_cons_zero,List.set_cons_succ]
   refine dh 1 (h:=fun K hK=> ?_)
   go_simp
   have tu:=Gm.lit
   try simp only[World.size_alloc]at tu
   refine hK.out _ _ (fun _=>gq.out _ tu.b) (fun hS=> ?_)
   replace hS:=hS (by decide)
   clear hK K
   try simp only[Act.put,List.setIfInBounds_toArray,List.set_cons_zero,List.set_cons_succ]
   refine aj (rs:=[6]) (by kernel_rfl) (by simp) ?_
   refine ah.cons (o:= ?o4) ?M5 (fun K hK=> ?_) ah.nil
   case M5=>simp only[List.getElem?_toArray,List.getElem?_cons_succ,List.getElem?_cons_zero];rfl
   refine aA (by rfl) (.tmp 27) (.tmp 31) 158 (by rfl) w5.heap.size 162 iO _ 3 40 Tryz.underlying158 pU.out.1 pU.out.2.1 pU.out.2.2.1 pU.out.2.2.2 rfl (by omega) _ 0 [] (by rfl) tu.o _ n _ (vals) (by rfl) (lH.out _ tu.b) GL.out (by unfold maxLen;omega) (by omega) tu.b.size ?_
   intro A6 c6 u6 hown hgr hat
   have uG:=tu.app hown hgr hat
   simp only[Nat.zero_add,List.nil_append]at uG⊢
   clear hown hgr hat
   refine hK.out _ _ (fun _=>gq.out _ uG.b) (fun hS=> ?_)
   replace hS:=hS (by decide)
   clear hK K
   try simp only[Act.put,List.setIfInBounds_toArray,List.set_cons_zero,List.set_cons_succ]
   refine aj (rs:=[15]) (by kernel_rfl) (by simp) ?_
   refine ah.cons (o:= ?o5) ?PS (fun K hK=> ?_) ah.nil
   case PS=>simp only[List.getElem?_toArray,List.getElem?_cons_succ,List.getElem?_cons_zero];rfl
   have Bv:ak _ _ _ (1*3) [.int .i64 nx, .slice a5 n5 c5,ptr q]:=uG.r
   refine aA (by rfl) (.tmp 32) (.tmp 40) 158 (by rfl) w5.heap.size 162 iO _ 3 40 Tryz.underlying158 pU.out.1 pU.out.2.1 pU.out.2.2.1 pU.out.2.2.2 rfl (by omega) _ n vals (by rfl) uG.o _ 1 _ ([.int .i64 nx, .slice a5 n5 c5,ptr q]) (by rfl) Bv (by simp[Value.oneCell']) (by unfold maxLen;omega) (by omega) uG.b.size ?_
   intro wS c15 yM hown hgr hat
   have xE:=uG.app hown hgr hat
   clear hown hgr hat
   refine hK.out _ _ (fun _=>gq.out _ xE.b) (fun hS=> ?_)
   replace hS:=hS (by decide)
   clear hK K
   try simp only[Act.put,List.setIfInBounds_toArray,List.set_cons_zero,List.set_cons_succ]
   refine aC 16 (hS:=hS) (h:= ?_)
   refine aC 17 (hS:=hS) (h:= ?_)
   refine dh 18 (h:=fun K hK=> ?_)
   go_simp
   refine hK.out _ _ (fun h=>absurd rfl h) (fun hS=> ?_)
   clear hS hK K
   try simp only[Act.put,List.setIfInBounds_toArray,List.set_cons_zero,List.set_cons_succ]
   refine aG (by kernel_rfl) ?_ _
   refine NoPanic.normal ?_
   have OG:=Lib.hid xE
   have zw:(yM.setCell ⟨s,2,none⟩ (.slice wS (n+1) c15)).heap[s]? =some (.cells #[.int .i64 nx, .slice la m lc, .slice wS (n+1) c15] 160 (0,0)):=aL (YV.out _ OG.out.b)
   have Ou:Hid (Keeps (fun b=>b=s) yM (yM.setCell ⟨s,2,none⟩ (.slice wS (n+1) c15))):=Lib.hid (Keeps.fE yM ⟨s,2,none⟩ (.slice wS (n+1) c15))
   generalize yM.setCell ⟨s,2,none⟩ (.slice wS (n+1) c15)=w9 at*
   have p1:w9.cell? ⟨s,1,none⟩=some (.slice la m lc):=by simp[World.cell?,zw]
   have f1:w9.frozen? ⟨s,1,none⟩=false:=by simp[World.frozen?,zw]
   have og:(w9.setCell ⟨s,1,none⟩ (.slice a5 n5 c5)).heap[s]? =some (.cells #[.int .i64 nx, .slice a5 n5 c5, .slice wS (n+1) c15] 160 (0,0)):=aL zw
   have Lp:Hid (Keeps (fun b=>b=s) yM (w9.setCell ⟨s,1,none⟩ (.slice a5 n5 c5))):=Ou.out.trans (Keeps.fE w9 ⟨s,1,none⟩ (.slice a5 n5 c5)) fun x _ hx=>hx
   have p0:(w9.setCell ⟨s,1,none⟩ (.slice a5 n5 c5)).cell? ⟨s,0,none⟩=some (.int .i64 nx):=by simp[World.cell?,og]
   have f0:(w9.setCell ⟨s,1,none⟩ (.slice a5 n5 c5)).frozen? ⟨s,0,none⟩=false:=by simp[World.frozen?,og]
   have wT:((w9.setCell ⟨s,1,none⟩ (.slice a5 n5 c5)).setCell ⟨s,0,none⟩ (.int .i64 (nx+1))).heap[s]? =some (.cells #[.int .i64 (nx+1), .slice a5 n5 c5, .slice wS (n+1) c15] 160 (0,0)):=aL og
   have p9:((w9.setCell ⟨s,1,none⟩ (.slice a5 n5 c5)).setCell ⟨s,0,none⟩ (.int .i64 (nx+1))).cell? ⟨s,0,none⟩=some (.int .i64 (nx+1)):=by simp[World.cell?,wT]
   have e1:IntKind.i64.wrap (nx+1)=nx+1:=IntWalk.i64_in _ (by omega)
   have e2:IntKind.i64.wrap (nx+1-1)=nx:=by rw[show nx+1-1=nx by omega];exact IntWalk.i64_in _ (by omega)
   have Lr:=Lib.hid wT
   clear zw og wT xE
   go_wp2_with fail
   go_ret2
   refine⟨rfl,?_⟩
   exact Lm.out _ _ _ _ _ _ _ _ OG.out (Lp.out.trans (Keeps.fE _ ⟨s,0,none⟩ _) fun x _ hx=>hx) Lr.out
end
def oh (x:dQ):List UInt8:=dU x.id 8++mZ x.hash++dU (fq x.t).length 8++fq x.t
def nQ (S:iC):List UInt8:=dU S.next 8++mZ S.last++dU S.l.length 1++S.l.flatMap oh
structure Rf (S:iC):Prop where
 few:S.l.length≤8
 last:S.last.length≤64
 next:0≤S.next∧S.next≤1000000000
 each:∀x∈S.l,(0≤x.id∧x.id≤1000000000)∧x.hash.length≤64
theorem oW {T:aI} (hT:dR T):(fq T).length≤6000000:=by
 have h1:=kT hT T (fun q hq=>hq)
 have h2:=hT.len
 unfold fq
 rw[List.length_append,bJ]
 omega
theorem Bw {x:dQ} (hT:dR x.t) (hh:x.hash.length≤64):(oh x).length≤6000100:=by
 have:=oW hT
 unfold oh
 simp only[List.length_append,bJ,jV]
 omega
theorem Bz {o:Mark} {w:World}:∀{vs:List Value} {l:List dQ},bX o w vs l→(∀x∈l,x.hash.length≤64)→(l.flatMap oh).length≤6000100*l.length
 |_,[],_,_=>by simp
 |_,x::r,⟨v1,v2,h1,h2,h3⟩,hh=>by
  obtain⟨a,c,q,e1,e2,e3,e4,e5⟩:=h2
  have k1:=Bw e5 (hh x (by simp))
  have k2:=Bz h3 fun y hy=>hh y (by simp[hy])
  rw[List.flatMap_cons,List.length_append,List.length_cons]
  omega
theorem yN {l:List dQ} {k:Nat} {x:dQ} (h:l[k]? =some x):(l.take (k+1)).flatMap oh=(l.take k).flatMap oh++oh x:=by
 obtain⟨hk,e⟩:=List.getElem?_eq_some_iff.1 h
 rw[List.take_succ_eq_append_getElem hk,List.flatMap_append,e]
 simp
theorem xG {o:Mark} {w:World} {vs:List Value} {l:List dQ} (h:bX o w vs l) (hh:∀x∈l,x.hash.length≤64) (h8:l.length≤8) (k:Nat):((l.take k).flatMap oh).length≤50000000:=by
 have:=Bz (h.take k) fun x hx=>hh x (List.mem_of_mem_take hx)
 have h9:(l.take k).length≤8:=by rw[List.length_take];omega
 omega
def Aside (x:Nat) (v:Value) (lo hi:Nat):Prop:=∀b,lo≤b→b<hi→b≠x∧v.ownBlock≠some b
theorem Aside.more {B x lo hi:Nat} {w w':World} {v v':Value} {bs':List UInt8} (h:Aside x v lo hi) (hm:iB B w x v bs' v' w') (hw:hi≤w.heap.size):Aside x v' lo hi∧∀b,lo≤b→b<hi→w'.heap[b]? =w.heap[b]? :=by
 refine⟨fun b h1 h2=>⟨(h b h1 h2).1,fun h9=> ?_⟩,fun b h1 h2=>hm.2.1.block b (by omega) fun h9=> ?_⟩
 ·rcases hm.2.2 b h9 with h3|h3
  ·exact(h b h1 h2).2 h3
  ·omega
 ·rcases h9 with h3|h3
  ·exact(h b h1 h2).1 h3
  ·exact(h b h1 h2).2 h3
section
variable {W w:World} {o:Mark} {i s:Nat} {S:iC}
def yO (w:World) (x:Nat) (bs:List UInt8) (wr:World):Prop:=∃v,bO w.heap.size wr x v bs∧Below w.heap.size w wr
theorem yO.more {w:World} {x:Nat} {bs bs':List UInt8} {wr w':World} {v:Value} {e:Ending} (h:bO w.heap.size wr x v bs) (hb:Below w.heap.size w wr) (ht:lW w.heap.size wr x v bs' e w'):e= .returned (.tuple #[])∧yO w x bs' w':=by
 obtain⟨rfl,v',hm⟩:=ht
 exact⟨rfl,v',hm.1,hb.trans (hm.low h)⟩
theorem zR (z:Int) (h0:0≤z) (h1:z≤1000000000):∀w,(convert 3 43 (.int .i64 z)).run Tryz.prog w= .ok (.int .u64 z) w:=fun w=>by
 have hk:Tryz.prog.intKind 43= .u64:=by kernel_rfl
 have:=run_convert_int (P:=Tryz.prog) w 3 43 .i64 z (by rw[Tryz.underlying3];rfl) (by rw[hk];exact Tryz.underlying43)
 rw[this,hk]
 have e:IntKind.u64.wrap z=z:=by
  show z%18446744073709551616=z
  omega
 rw[e]
set_option maxRecDepth 100000 in
set_option maxHeartbeats 8000000 in
theorem G_ (hS:dX o i w s S) (hM:Marks W o w) (hv:Rf S):Calls Tryz.prog 50 #[ptr s] w (kC w (nQ S)):=by
 obtain⟨v,la,lc,vals,h1,h2,h3,h4,h5,h6,h7,h8⟩:=hS.at_
 obtain⟨a,c,rfl,hcap⟩:=bQ h4
 have AB:=hv.few
 obtain⟨-,-,hrow⟩:=ak.jO h4 (by unfold maxLen;omega)
 have uR:=Lib.hid h6
 have gZ:=Lib.hid hrow
 have M4:=Lib.hid h8
 have PD:=Lib.hid h7
 have HM:=Lib.hid hM
 have HV:=Lib.hid hv
 have vN:=Lib.hid (xG h6 (fun x hx=>(hv.each x hx).2) hv.few)
 have HH:Hid (∀w',Below w.heap.size w w'→w'.cell? ⟨s,0,none⟩=some (.slice a S.l.length c)∧w'.cell? ⟨s,1,none⟩=some (.int .i64 S.next)∧w'.cell? ⟨s,2,none⟩=some (.slice la S.last.length lc)):=fun w' hb=>by
  have:=(hb.block s h3).trans h1
  refine⟨?_,?_,?_⟩<;>simp[World.cell?,this]
 have hcn:=zR S.next hv.next.1 hv.next.2
 obtain⟨n,hn⟩:∃n,n=S.l.length:=⟨_,rfl⟩
 have HN:=Lib.hid hn
 rw[←hn]at HH hcap AB
 have hll:=hv.last
 have hnx:=hv.next
 obtain⟨c0,c1,c2⟩:=HH.out w (Below.refl _ _)
 clear hS hM hv h1 h2 h4 h5 h6 h7 h8 hrow hn
 go_enter Tryz.func50,Tryz.ntmps50
 go_wp2_with fail
 (with_reducible refine(mK _).mono ?_)
 rintro e w1 ⟨rfl,hW1,hb1⟩
 have HW1:=Lib.hid hW1
 have HB1:=Lib.hid hb1
 obtain⟨d0,d1,d2⟩:=HH.out w1 hb1
 clear hW1 hb1 c0 c1 c2
 go_wp2_with fail
 (with_reducible refine(ru HW1.out S.next hnx.1 (by omega) (by simp)).mono ?_)
 intro e w2 ht2
 obtain⟨rfl,x2,hW2,hb2⟩:=yO.more HW1.out HB1.out ht2
 have HW2:=Lib.hid hW2
 have HB2:=Lib.hid hb2
 obtain⟨e0,e1,e2⟩:=HH.out w2 hb2
 clear ht2 hW2 hb2 d0 d1 d2 HW1
 go_wp2_with fail
 have hlr:=M4.out.below HB2.out (Nat.le_refl _)
 (with_reducible refine(rA HW2.out la S.last.length lc S.last hlr (fun b hb=>⟨by have:=HW2.out.low;omega,fun h9=>by have:=bC HW2.out.own b h9;omega⟩) PD.out (by simp[bJ]) (by omega)).mono ?_)
 intro e w3 ht3
 obtain⟨rfl,x3,hW3,hb3⟩:=yO.more HW2.out HB2.out ht3
 have HW3:=Lib.hid hW3
 have HB3:=Lib.hid hb3
 obtain⟨f0,f1,f2⟩:=HH.out w3 hb3
 clear ht3 hW3 hb3 e0 e1 e2 HW2 hlr
 go_wp2_with fail
 (with_reducible refine(qZ HW3.out (n:Int) (by omega) (by omega) (by simp[bJ];omega)).mono ?_)
 intro e w4 EB
 obtain⟨rfl,x4,sM,hb4⟩:=yO.more HW3.out HB3.out EB
 have n_:=Lib.hid sM
 have kS:=Lib.hid hb4
 obtain⟨k0,k1,k2⟩:=HH.out w4 hb4
 clear EB sM hb4 f0 f1 f2 HW3
 obtain⟨pre,hpre⟩:∃pre,pre=[]++dU S.next 8++(dU (S.last.length:Int) 2++S.last)++dU (n:Int) 1:=⟨_,rfl⟩
 have hprl:pre.length≤1000:=by rw[hpre];simp[bJ];omega
 rw[←hpre]at n_
 have YZ:=Lib.hid hpre
 clear hpre
 go_wp2_with fail
 go_loopw [5,6,33] (fun _ _ iv wr=>∃k:Nat,iv= .int .i64 k∧k≤n∧yO w w.heap.size (pre++(S.l.take k).flatMap oh) wr) (fun _ _ iv _=>n-(intOf iv).toNat)
 case atStart=>exact⟨0,rfl,Nat.zero_le _,x4,by simpa using n_.out,kS.out⟩
 case round=>
  obtain⟨k,rfl,hk,y,hy,hby⟩:=hrel
  have HY:=Lib.hid hy
  have OH:=Lib.hid hby
  have hbl:=vN.out k
  clear hy hby
  by_cases hlt:k<n
  ·have hd:decide ((k:Int)<(n:Int))=true:=by simpa using hlt
   obtain⟨x,hx⟩:∃x,S.l[k]? =some x:=⟨S.l[k]'(by have:=HN.out;omega),List.getElem?_eq_getElem _⟩
   have HRW:=gZ.out
   rw[←HN.out]at HRW
   obtain⟨g,off,rfl,hgw,_,hcell⟩:=HRW.at_ (by omega)
   obtain⟨ha,hcp,q,r0,r1,r2,r3,r4,r5,r6⟩:=uR.out.at_ hx
   have q0:wr.cell? ⟨g,off+k*3,none⟩=some (.int .i64 x.id):=(OH.out.cell (p:=⟨g,off+k*3,none⟩) hgw.2).trans ((hcell (k*3) (by omega)).trans r0)
   have q1:wr.cell? ⟨g,off+k*3+1,none⟩=some (.slice ha x.hash.length hcp):=(OH.out.cell (p:=⟨g,off+k*3+1,none⟩) hgw.2).trans ((hcell (k*3+1) (by omega)).trans r1)
   have q2:wr.cell? ⟨g,off+k*3+2,none⟩=some (ptr q):=(OH.out.cell (p:=⟨g,off+k*3+2,none⟩) hgw.2).trans ((hcell (k*3+2) (by omega)).trans r2)
   have hid:=HV.out.each x (List.mem_of_getElem? hx)
   have hci:=zR x.id hid.1.1 hid.1.2
   have hsb:=oW r6
   have hcb:=zR ((fq x.t).length:Int) (by omega) (by omega)
   have HX:=Lib.hid hx
   have HR4:=Lib.hid r4
   have C8:=Lib.hid r5
   have UO:=Lib.hid r6
   have i0:(0:Int)≤(k:Int):=by omega
   have i1:(k:Int)<(n:Int):=by omega
   have hs0:=OH.out.size
   clear hx r0 r1 r2 r4 r5 r6 hcell HRW
   go_wp2_with fail
   have hub:=wall wr (.cells #[.int .i64 x.id, .slice ha x.hash.length hcp,ptr q] 152)
   have hu1:=(MapKept.heap_alloc wr (.cells #[.int .i64 x.id, .slice ha x.hash.length hcp,ptr q] 152)).1
   (with_reducible refine(rE (C8.out.grow (OH.out.trans (Below.mono hub hs0))) UO.out).mono ?_)
   rintro e u2 ⟨ba,bn,bc,rfl,hbc,hbr,hb6⟩
   have Y0:bn=(fq x.t).length:=by have:=hbr.length;simpa using this.symm
   subst Y0
   have hyl:=jF HY.out.own
   have hxl:=HY.out.lt
   have hu2:=(hb6.block wr.heap.size (by simp)).trans hu1
   have hbu:Below wr.heap.size wr u2:=hub.trans (hb6.mono hub.size)
   have yt:=Lib.hid (hbr.mono (S':=fun b=>wr.heap.size≤b∧b<u2.heap.size) fun b hb=>⟨Nat.le_trans hub.size hb.1,hb.2⟩)
   have HAS:Hid (Aside w.heap.size y wr.heap.size u2.heap.size):=fun b h1 h2=>⟨by omega,fun h9=>by have:=hyl b h9;omega⟩
   have Rt:=Lib.hid (HY.out.below hbu)
   have yc:=Lib.hid (OH.out.trans (hbu.mono hs0))
   have HU2:=Lib.hid hu2
   have VU:wr.heap.size<u2.heap.size:=(Array.getElem?_eq_some_iff.1 hu2).1
   have v0:u2.cell? ⟨wr.heap.size,0,none⟩=some (.int .i64 x.id):=by simp[World.cell?,hu2]
   have v1:u2.cell? ⟨wr.heap.size,1,none⟩=some (.slice ha x.hash.length hcp):=by simp[World.cell?,hu2]
   have UE:(pre++(S.l.take k).flatMap oh).length≤50001000:=by rw[List.length_append];omega
   obtain⟨b0,hb0⟩:∃b0,b0=pre++(S.l.take k).flatMap oh:=⟨_,rfl⟩
   rw[←hb0]at UE
   have Rh:Hid (bO w.heap.size u2 w.heap.size y b0):=by rw[hb0];exact Rt
   have CP:=Lib.hid hb0
   clear hub hu1 hbr hb6 hyl hu2 hbu q0 q1 q2 HY Rt hb0
   go_wp2_with fail
   (with_reducible refine(ru Rh.out x.id hid.1.1 (by omega) (by omega)).mono ?_)
   rintro e u3 ⟨rfl,y3,Av⟩
   obtain⟨UQ,hk3⟩:=HAS.out.more Av (Nat.le_refl _)
   have hu3:=(hk3 wr.heap.size (Nat.le_refl _) VU).trans HU2.out
   have Oc:=Lib.hid Av.1
   have uQ:=Lib.hid (yc.out.trans (Av.low Rh.out))
   have Y1:=Lib.hid UQ
   have hs3:=Av.2.1.size
   have UR:=Lib.hid (yt.out.kept hs3 (fun b hb _=>hk3 b hb.1 hb.2))
   have v1':u3.cell? ⟨wr.heap.size,1,none⟩=some (.slice ha x.hash.length hcp):=by simp[World.cell?,hu3]
   clear Av UQ hk3 hu3 v0 v1 Rh yt
   go_wp2_with fail
   have VK:=HR4.out.below uQ.out (Nat.le_refl _)
   (with_reducible refine(rA Oc.out ha x.hash.length hcp x.hash VK (fun b hb=>⟨by omega,fun h9=>by have:=bC Oc.out.own b h9;omega⟩) (by omega) (by simp[bJ];omega) (by omega)).mono ?_)
   rintro e u4 ⟨rfl,y4,Mt⟩
   obtain⟨UU,hk4⟩:=Y1.out.more Mt hs3
   have hs4:=Mt.2.1.size
   have R4:=Lib.hid Mt.1
   have uw:=Lib.hid (uQ.out.trans (Mt.low Oc.out))
   have Y2:=Lib.hid UU
   have UW:=Lib.hid (UR.out.kept hs4 (fun b hb _=>hk4 b hb.1 hb.2))
   clear Mt UU hk4 v1' VK Oc UR
   go_wp2_with fail
   (with_reducible refine(ru R4.out ((fq x.t).length:Int) (by omega) (by omega) (by simp[bJ];omega)).mono ?_)
   rintro e u5 ⟨rfl,y5,Cr⟩
   obtain⟨Y3,hk5⟩:=Y2.out.more Cr (by omega)
   have hs5:=Cr.2.1.size
   have Y4:=Lib.hid Cr.1
   have yg:=Lib.hid (uw.out.trans (Cr.low R4.out))
   have UY:=Lib.hid (UW.out.kept hs5 (fun b hb _=>hk5 b hb.1 hb.2))
   clear Cr Y3 hk5 R4 UW
   go_wp2_with fail
   (with_reducible refine(D_ Y4.out ba (fq x.t).length bc (fq x.t) UY.out (by simp[bJ];omega) (by omega)).mono ?_)
   rintro e u6 ⟨rfl,y6,IE⟩
   have HWA:=Lib.hid IE.1
   have xC:=Lib.hid (yg.out.trans (IE.low Y4.out))
   clear IE Y4 UY
   go_wp2_with fail
   go_roundw
   case rel=>
    refine⟨k+1,by go_num,by omega,y6,?_,xC.out⟩
    have h9:=HWA.out
    rw[CP.out]at h9
    rw[yN HX.out,oh,mZ]
    simpa only[List.append_assoc]using h9
   case measure=>simp[intOf];omega
  ·have hd:decide ((k:Int)<(n:Int))=false:=by simp;omega
   obtain rfl:k=n:=by omega
   have hkl:S.l.take k=S.l:=List.take_of_length_le (by have:=HN.out;omega)
   rw[hkl]at HY hbl
   go_wp2_with fail
   (with_reducible refine(vI HY.out (by rw[List.length_append];omega)).mono ?_)
   rintro e u2 ⟨ba,bn,bc,rfl,hbc,hbr,hb6⟩
   have yt:=Lib.hid hbr
   have yc:=Lib.hid hb6
   clear hbr hb6
   go_wp2_with fail
   go_ret
   have hs0:=OH.out.size
   refine⟨ba,bn,bc,rfl,hbc,?_,OH.out.trans (yc.out.mono hs0)⟩
   have e:pre++S.l.flatMap oh=nQ S:=by
    rw[YZ.out,HN.out]
    unfold nQ mZ
    simp
   have h9:=yt.out
   rw[e]at h9
   exact h9.mono fun b hb=>⟨by omega,hb.2⟩
end
end Go.Proofs.YtohpcppeajijnaaGreat
