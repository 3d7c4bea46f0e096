/- The reference's tree: Copy. -/
import Derived.Test.YtohpcppeajijnaaGreatM27
import Derived.Test.YtohpcppeajijnaaGreatM17
import Derived.Test.YtohpcppeajijnaaGreatM13
import Derived.Test.YtohpcppeajijnaaGreatM20
import Derived.Test.YtohpcppeajijnaaGreatM36
namespace Go.Proofs.YtohpcppeajijnaaGreat
open Go.ChangeShapes Go.WideShapes Go.ChangeAt Go.RowKit
set_option linter.unusedVariables false
set_option linter.unusedSimpArgs false
def Apart (a b:Value):Prop:=∀g,a.ownBlock=some g→b.ownBlock≠some g
theorem Apart.symm {a b:Value} (h:Apart a b):Apart b a:=fun g h1 h2=>h g h2 h1
theorem sZ (a:Value):Apart a (.slice none 0 0):=fun g _ h=>by simp[Value.ownBlock]at h
structure wL (t1 t2 t3:TypeId) (k1 k2 k3:Nat) (w u:World) (v1:Value) (n1:Nat) (x1:List Value) (v2:Value) (n2:Nat) (x2:List Value) (v3:Value) (n3:Nat) (x3:List Value):Prop where
 o1:u.ownsRow w.heap.size t1 k1 v1 n1 x1
 o2:u.ownsRow w.heap.size t2 k2 v2 n2 x2
 o3:u.ownsRow w.heap.size t3 k3 v3 n3 x3
 d12:Apart v1 v2
 d13:Apart v1 v3
 d23:Apart v2 v3
 b:Below w.heap.size w u
section
variable {t1 t2 t3:TypeId} {k1 k2 k3:Nat} {w u u':World} {v1 v2 v3 v':Value} {n1 n2 n3 n':Nat} {x1 x2 x3 x':List Value}
theorem lJ {B k n:Nat} {t:TypeId} {v:Value} {xs:List Value} (h:u.ownsRow B t k v n xs) (o:Obj):(u.alloc o).ownsRow B t k v n xs:=bY h fun b _ hbw=>Below.heap_alloc u o b hbw
theorem kX {B k n:Nat} {t:TypeId} {v:Value} {xs:List Value} (h:u.ownsRow B t k v n xs):Apart (.slice (some ⟨u.heap.size,0,none⟩) 0 0) v:=fun g h1 h2=>by
 have h3:=jF h g h2
 simp[Value.ownBlock]at h1
 omega
theorem wL.start (w:World):wL t1 t2 t3 k1 k2 k3 w w.drew (.slice none 0 0) 0 [] (.slice none 0 0) 0 [] (.slice none 0 0) 0 []:=
 ⟨⟨by simp, .inl ⟨rfl,rfl⟩⟩,⟨by simp, .inl ⟨rfl,rfl⟩⟩,⟨by simp, .inl ⟨rfl,rfl⟩⟩,sZ _,sZ _,sZ _,(Below.refl _ _).drew⟩
theorem wL.wM (h:wL t1 t2 t3 k1 k2 k3 w u v1 n1 x1 v2 n2 x2 v3 n3 x3):wL t1 t2 t3 k1 k2 k3 w (u.alloc (.cells #[] t1)) (.slice (some ⟨u.heap.size,0,none⟩) 0 0) 0 [] v2 n2 x2 v3 n3 x3:=
 ⟨m_ (MapKept.heap_alloc u _).1 h.b.size,lJ h.o2 _,lJ h.o3 _,kX h.o2,kX h.o3,h.d23,h.b.trans ((wall u _).mono h.b.size)⟩
theorem wL.nM (h:wL t1 t2 t3 k1 k2 k3 w u v1 n1 x1 v2 n2 x2 v3 n3 x3):wL t1 t2 t3 k1 k2 k3 w (u.alloc (.cells #[] t2)) v1 n1 x1 (.slice (some ⟨u.heap.size,0,none⟩) 0 0) 0 [] v3 n3 x3:=
 ⟨lJ h.o1 _,m_ (MapKept.heap_alloc u _).1 h.b.size,lJ h.o3 _,(kX h.o1).symm,h.d13,kX h.o3,h.b.trans ((wall u _).mono h.b.size)⟩
theorem wL.kF (h:wL t1 t2 t3 k1 k2 k3 w u v1 n1 x1 v2 n2 x2 v3 n3 x3):wL t1 t2 t3 k1 k2 k3 w (u.alloc (.cells #[] t3)) v1 n1 x1 v2 n2 x2 (.slice (some ⟨u.heap.size,0,none⟩) 0 0) 0 []:=
 ⟨lJ h.o1 _,lJ h.o2 _,m_ (MapKept.heap_alloc u _).1 h.b.size,h.d12,(kX h.o1).symm,(kX h.o2).symm,h.b.trans ((wall u _).mono h.b.size)⟩
theorem kY {B k n:Nat} {t:TypeId} {v own:Value} {xs:List Value} (h:u.ownsRow B t k v n xs) (hg:u.grownBy u' own.ownBlock) (ha:Apart own v):u'.ownsRow B t k v n xs:=
 bY h fun b hb hbw=>hg.block b hbw fun e=>ha b e.symm hb
theorem jh {B k n:Nat} {t:TypeId} {v own:Value} {xs:List Value} (h:u.ownsRow B t k v n xs) (ha:Apart own v) (hat:v'.ownBlock=own.ownBlock∨v'.ownBlock=some u.heap.size):Apart v' v:=fun g h1 h2=>by
 rcases hat with e|e
 ·exact ha g (e▸h1) h2
 ·have h3:=jF h g h2
  rw[e]at h1
  cases h1
  omega
theorem below_grown {B:Nat} {own:Value} {k n:Nat} {t:TypeId} {xs:List Value} (hb:Below w.heap.size w u) (h:u.ownsRow w.heap.size t k own n xs) (hg:u.grownBy u' own.ownBlock):Below w.heap.size w u':=
 hb.trans ⟨hg.os,hg.tape,hg.output,hg.size,fun b hb'=>hg.block b (by have:=hb.size;omega) fun e=>by have:=bC h b e.symm;omega⟩
theorem wL.app1 (h:wL t1 t2 t3 k1 k2 k3 w u v1 n1 x1 v2 n2 x2 v3 n3 x3) (ho:u'.ownsRow w.heap.size t1 k1 v' n' x') (hg:u.grownBy u' v1.ownBlock) (hat:v'.ownBlock=v1.ownBlock∨v'.ownBlock=some u.heap.size):wL t1 t2 t3 k1 k2 k3 w u' v' n' x' v2 n2 x2 v3 n3 x3:=
 ⟨ho,kY h.o2 hg h.d12,kY h.o3 hg h.d13,jh h.o2 h.d12 hat,jh h.o3 h.d13 hat,h.d23,below_grown (B:=0) h.b h.o1 hg⟩
theorem wL.qE (h:wL t1 t2 t3 k1 k2 k3 w u v1 n1 x1 v2 n2 x2 v3 n3 x3) (ho:u'.ownsRow w.heap.size t2 k2 v' n' x') (hg:u.grownBy u' v2.ownBlock) (hat:v'.ownBlock=v2.ownBlock∨v'.ownBlock=some u.heap.size):wL t1 t2 t3 k1 k2 k3 w u' v1 n1 x1 v' n' x' v3 n3 x3:=
 ⟨kY h.o1 hg h.d12.symm,ho,kY h.o3 hg h.d23,(jh h.o1 h.d12.symm hat).symm,h.d13,jh h.o3 h.d23 hat,below_grown (B:=0) h.b h.o2 hg⟩
theorem wL.qF (h:wL t1 t2 t3 k1 k2 k3 w u v1 n1 x1 v2 n2 x2 v3 n3 x3) (ho:u'.ownsRow w.heap.size t3 k3 v' n' x') (hg:u.grownBy u' v3.ownBlock) (hat:v'.ownBlock=v3.ownBlock∨v'.ownBlock=some u.heap.size):wL t1 t2 t3 k1 k2 k3 w u' v1 n1 x1 v2 n2 x2 v' n' x':=
 ⟨kY h.o1 hg h.d13.symm,kY h.o2 hg h.d23.symm,ho,h.d12,(jh h.o1 h.d13.symm hat).symm,(jh h.o2 h.d23.symm hat).symm,below_grown (B:=0) h.b h.o3 hg⟩
end
def zK (F:Nat→Prop) (w:World) (r:Nat) (T:aI) (D:List (List UInt8)) (E:List iw) (e:Ending) (w':World):Prop:=
 ∃q,e= .returned (ptr q)∧w.heap.size≤q∧Below w.heap.size w w'∧eX (fun b=>Off F r b∨(w.heap.size≤b∧b<w'.heap.size)) w' q T D E
theorem Ni {F:Nat→Prop} {r:Nat} {T:aI} {D:List (List UInt8)} {E:List iw} {w u:World} {a1 a2 a3:Option Addr} {m1 m2 m3 c1 c2 c3 n1 n2 n3:Nat} {vs:List Value} (h:eX F w r T D E) (hD:∀(i:Nat) (b:List UInt8),D[i]? =some b→∃(a:Option Addr) (c:Nat),vs[i]? =some (.slice a b.length c)∧qN b.length c∧ak (Off F r) w a b.length (b.map bv))
  (e1:n1=T.length) (e2:n2=D.length) (e3:n3=E.length) (hn:n1≤10000000∧n2≤10000000∧n3≤10000000)
  (hC:wL 98 39 131 6 1 3 w u (.slice a1 m1 c1) n1 (T.flatMap bA) (.slice a2 m2 c2) n2 vs (.slice a3 m3 c3) n3 (E.flatMap dM)):
  zK F w r T D E (.returned (ptr u.heap.size)) (u.alloc (.cells #[.slice a1 m1 c1, .slice a2 m2 c2, .slice a3 m3 c3] 102)):=by
 have hB:=hC.b.trans ((wall u (.cells #[.slice a1 m1 c1, .slice a2 m2 c2, .slice a3 m3 c3] 102)).mono hC.b.size)
 have hs:=hC.b.size
 have hsz:(u.alloc (.cells #[.slice a1 m1 c1, .slice a2 m2 c2, .slice a3 m3 c3] 102)).heap.size=u.heap.size+1:=by simp
 obtain⟨f1,g1,b1,q1⟩:=ak.jS hC.o1 (by unfold maxLen;omega)
 obtain⟨f2,g2,b2,q2⟩:=ak.jS hC.o2 (by unfold maxLen;omega)
 obtain⟨f3,g3,b3,q3⟩:=ak.jS hC.o3 (by unfold maxLen;omega)
 subst f1 f2 f3
 subst e1 e2 e3
 have hmv:∀b,(w.heap.size≤b∧b<u.heap.size)→b<u.heap.size→Off (fun b=>Off F r b∨(w.heap.size≤b∧b<(u.alloc (.cells #[.slice a1 T.length c1, .slice a2 D.length c2, .slice a3 E.length c3] 102)).heap.size)) u.heap.size b∧(u.alloc (.cells #[.slice a1 T.length c1, .slice a2 D.length c2, .slice a3 E.length c3] 102)).heap[b]? =u.heap[b]? :=fun b hb hbu=>⟨⟨.inr ⟨hb.1,by rw[hsz];omega⟩,by omega⟩,Below.heap_alloc u _ b hbu⟩
 refine⟨u.heap.size,rfl,hs,hB,⟨⟨a1,c1,a2,c2,a3,c3,(MapKept.heap_alloc u _).1,g1,g2,g3,q1.move (by omega) hmv,⟨vs,?_,fun i b hb=> ?_⟩,q3.move (by omega) hmv,b3⟩, .inr ⟨hs,by omega⟩,fun b hb=> ?_⟩⟩
 ·have q2':=q2
  rw[Nat.mul_one]at q2'
  exact q2'.move (by omega) hmv
 ·obtain⟨a,c,h1,h2,h3⟩:=hD i b hb
  exact⟨a,c,h1,h2,h3.move hB.size fun x hx hxw=>⟨⟨.inl hx,by omega⟩,hB.block x hxw⟩⟩
 ·rcases hb with hb|hb
  ·have:=h.low b hb.1
   omega
  ·exact hb.2
section
variable {F:Nat→Prop} {r:Nat} {T:aI} {D:List (List UInt8)} {E:List iw}
set_option maxRecDepth 100000 in
set_option maxHeartbeats 8000000 in
theorem Gl (w:World) (h:eX F w r T D E) (hn:T.length≤64) (hd:D.length≤64) (he:E.length≤4194240):Calls Tryz.prog 108 #[ptr r] w (zK F w r T D E):=by
 obtain⟨iN,WB⟩:∃i,Tryz.prog.info? 98=some i∧i.zero=some (.agg #[.int .i64 0, .int .i64 0, .int .i64 0, .int .i64 0, .int .u64 0, .bool false])∧i.size=6∧i.bytes=48:=info_parts nodeInfo
 obtain⟨iD,hiD⟩:∃i,Tryz.prog.info? 39=some i∧i.zero=some (.slice none 0 0)∧i.size=1∧i.bytes=24:=info_parts oO
 obtain⟨iE,hiE⟩:∃i,Tryz.prog.info? 131=some i∧i.zero=some (.agg #[.int .i64 0, .string ⟨#[]⟩, .int .i64 0])∧i.size=3∧i.bytes=32:=info_parts uS
 obtain⟨aN,cN,aD,cD,aE,cE,h1,-,-,-,h8,⟨vs,h9,hvs⟩,h10,-⟩:=h.head
 have hr0:=h.low r h.own
 have HH:=Lib.hid h
 have HV:=Lib.hid hvs
 have hv1:∀u∈vs,u.oneCell'=true:=fun u hu=>by
  obtain⟨i,hi,rfl⟩:=List.mem_iff_getElem.1 hu
  have hl:vs.length=D.length:=h9.length
  obtain⟨a,c,hx,-⟩:=hvs i _ (List.getElem?_eq_getElem (by omega))
  rw[List.getElem?_eq_getElem hi]at hx
  rw[Option.some.inj hx]
  rfl
 obtain⟨n1,e1⟩:∃n,n=T.length:=⟨_,rfl⟩
 obtain⟨n2,e2⟩:∃n,n=D.length:=⟨_,rfl⟩
 obtain⟨n3,e3⟩:∃n,n=E.length:=⟨_,rfl⟩
 rw[←e1]at h1 h8 hn
 rw[←e2]at h1 h9 hd
 rw[←e3]at h1 h10 he
 have gy:Hid (∀w',Below w.heap.size w w'→w'.cell? ⟨r,0,none⟩=some (.slice aN n1 cN)∧w'.cell? ⟨r,1,none⟩=some (.slice aD n2 cD)∧w'.cell? ⟨r,2,none⟩=some (.slice aE n3 cE)):=fun w' hb=>by
  have h2:=(hb.block r hr0).trans h1
  refine⟨?_,?_,?_⟩<;>simp[World.cell?,h2]
 have HN:=Lib.hid h8
 have HD:=Lib.hid (show ak (Off F r) w aD (n2*1) vs by rw[Nat.mul_one];exact h9)
 have HE:=Lib.hid h10
 have mG:=Lib.hid WB
 have jf:=Lib.hid hiD
 have ji:=Lib.hid hiE
 have AZ:=Lib.hid (dx T)
 have HD1:=Lib.hid hv1
 have wN:=Lib.hid (jy E)
 have HQ:=Lib.hid (And.intro e1 (And.intro e2 e3))
 have wX:=Lib.hid (wL.start (t1:=98) (t2:=39) (t3:=131) (k1:=6) (k2:=1) (k3:=3) w)
 have ig:Hid (∀(u:World) (a1 a2 a3:Option Addr) (m1 m2 m3 c1 c2 c3:Nat),wL 98 39 131 6 1 3 w u (.slice a1 m1 c1) n1 (T.flatMap bA) (.slice a2 m2 c2) n2 vs (.slice a3 m3 c3) n3 (E.flatMap dM)→zK F w r T D E (.returned (ptr u.heap.size)) (u.alloc (.cells #[.slice a1 m1 c1, .slice a2 m2 c2, .slice a3 m3 c3] 102))):=fun u a1 a2 a3 m1 m2 m3 c1 c2 c3 hC=>Ni h hvs e1 e2 e3 ⟨by omega,by omega,by omega⟩ hC
 clear h h1 h8 h9 h10 hvs hv1 e1 e2 e3 WB hiD hiE
 go_enter Tryz.func108,Tryz.ntmps108
 go_wp2_with fail
 refine wp_region_noPanic ?_
 refine aH (last:=20) (S:=(fun w'=>w'.cell? ⟨r,0,none⟩=some (.slice aN n1 cN)∧w'.cell? ⟨r,1,none⟩=some (.slice aD n2 cD)∧w'.cell? ⟨r,2,none⟩=some (.slice aE n3 cE))) (by kernel_rfl) ?_ (fun hS=> ?_)
 ·exact gy.out _ wX.out.b
 refine aC 1 (hS:=hS) (h:= ?_)
 refine aC 2 (hS:=hS) (h:= ?_)
 refine aC 3 (hS:=hS) (h:= ?_)
 refine aC 4 (hS:=hS) (h:= ?_)
 refine aC 7 (hS:=hS) (h:= ?_)
 refine aC 8 (hS:=hS) (h:= ?_)
 refine aC 9 (hS:=hS) (h:= ?_)
 refine aC 10 (hS:=hS) (h:= ?_)
 refine aC 13 (hS:=hS) (h:= ?_)
 refine aC 14 (hS:=hS) (h:= ?_)
 refine aC 15 (hS:=hS) (h:= ?_)
 refine aC 16 (hS:=hS) (h:= ?_)
 refine aj (rs:=[0,6,12]) (by kernel_rfl) (by simp) ?_
 refine ah.cons (o:= ?Yg) ?Ku (fun K hK=> ?Yh) (ah.cons (o:= ?Yi) ?Kv (fun K hK=> ?Yj) (ah.cons (o:= ?o2_2) ?TV (fun K hK=> ?TW) ah.nil))
 case Ku=>simp only[List.getElem?_toArray,List.getElem?_cons_succ,List.getElem?_cons_zero];rfl
 case Kv=>simp only[List.getElem?_toArray,List.getElem?_cons_succ,List.getElem?_cons_zero];rfl
 case TV=>simp only[List.getElem?_toArray,List.getElem?_cons_succ,List.getElem?_cons_zero];rfl
 case Yh=>
  go_simp
  have BS:=wX.out.wM
  try simp only[World.size_alloc]at BS
  refine hK.out _ _ (fun _=>gy.out _ BS.b) (fun hS=> ?_)
  replace hS:=hS (by decide)
  clear hK K
  try simp only[Act.put,List.setIfInBounds_toArray,List.set_cons_zero,List.set_cons_succ]
  refine aj (rs:=[5,6,12]) (by kernel_rfl) (by simp) ?_
  refine ah.cons (o:= ?Yk) ?Kw (fun K hK=> ?Yl) (ah.cons (o:= ?Ym) ?Ky (fun K hK=> ?Qi) (ah.cons (o:= ?o5_2) ?TY (fun K hK=> ?T9) ah.nil))
  case Kw=>simp only[List.getElem?_toArray,List.getElem?_cons_succ,List.getElem?_cons_zero];rfl
  case Ky=>simp only[List.getElem?_toArray,List.getElem?_cons_succ,List.getElem?_cons_zero];rfl
  case TY=>simp only[List.getElem?_toArray,List.getElem?_cons_succ,List.getElem?_cons_zero];rfl
  case Yl=>
   refine aA (by rfl) (.tmp 3) (.tmp 7) 99 (by rfl) w.heap.size 98 iN _ 6 48 Tryz.underlying99 mG.out.1 mG.out.2.1 mG.out.2.2.1 mG.out.2.2.2 rfl (by omega) _ 0 [] (by rfl) BS.o1 _ n1 _ _ (by rfl) (HN.out.below BS.b (Nat.le_refl _)) AZ.out (by unfold maxLen;omega) (by omega) BS.b.size ?_
   intro A1 c1 u1 hown hgr hat
   have Qj:=BS.app1 hown hgr hat
   clear hown hgr hat
   refine hK.out _ _ (fun _=>gy.out _ Qj.b) (fun hS=> ?_)
   replace hS:=hS (by decide)
   clear hK K
   try simp only[Act.put,List.setIfInBounds_toArray,List.set_cons_zero,List.set_cons_succ]
   refine aj (rs:=[6,12]) (by kernel_rfl) (by simp) ?_
   refine ah.cons (o:= ?o8_0) ?T_ (fun K hK=> ?Yn) (ah.cons (o:= ?o8_1) ?Ua (fun K hK=> ?Ub) ah.nil)
   case T_=>simp only[List.getElem?_toArray,List.getElem?_cons_succ,List.getElem?_cons_zero];rfl
   case Ua=>simp only[List.getElem?_toArray,List.getElem?_cons_succ,List.getElem?_cons_zero];rfl
   case Yn=>
    go_simp
    have ED:=Qj.nM
    try simp only[World.size_alloc]at ED
    refine hK.out _ _ (fun _=>gy.out _ ED.b) (fun hS=> ?_)
    replace hS:=hS (by decide)
    clear hK K
    try simp only[Act.put,List.setIfInBounds_toArray,List.set_cons_zero,List.set_cons_succ]
    refine aj (rs:=[11,12]) (by kernel_rfl) (by simp) ?_
    refine ah.cons (o:= ?o11_0) ?Qk (fun K hK=> ?Ql) (ah.cons (o:= ?o11_1) ?Qm (fun K hK=> ?Qn) ah.nil)
    case Qk=>simp only[List.getElem?_toArray,List.getElem?_cons_succ,List.getElem?_cons_zero];rfl
    case Qm=>simp only[List.getElem?_toArray,List.getElem?_cons_succ,List.getElem?_cons_zero];rfl
    case Ql=>
     refine aA (by rfl) (.tmp 9) (.tmp 13) 86 (by rfl) w.heap.size 39 iD _ 1 24 Tryz.underlying86 jf.out.1 jf.out.2.1 jf.out.2.2.1 jf.out.2.2.2 rfl (by omega) _ 0 [] (by rfl) ED.o2 _ n2 _ _ (by rfl) (HD.out.below ED.b (Nat.le_refl _)) HD1.out (by unfold maxLen;omega) (by omega) ED.b.size ?_
     intro A2 c2 u2 hown hgr hat
     have Gm:=ED.qE hown hgr hat
     clear hown hgr hat
     refine hK.out _ _ (fun _=>gy.out _ Gm.b) (fun hS=> ?_)
     replace hS:=hS (by decide)
     clear hK K
     try simp only[Act.put,List.setIfInBounds_toArray,List.set_cons_zero,List.set_cons_succ]
     refine dh 12 (h:=fun K hK=> ?_)
     go_simp
     have tu:=Gm.kF
     try simp only[World.size_alloc]at tu
     refine hK.out _ _ (fun _=>gy.out _ tu.b) (fun hS=> ?_)
     replace hS:=hS (by decide)
     clear hK K
     try simp only[Act.put,List.setIfInBounds_toArray,List.set_cons_zero,List.set_cons_succ]
     refine aj (rs:=[17]) (by kernel_rfl) (by simp) ?_
     refine ah.cons (o:= ?o1) ?ho1 (fun K hK=> ?_) ah.nil
     case ho1=>simp only[List.getElem?_toArray,List.getElem?_cons_succ,List.getElem?_cons_zero];rfl
     refine aA (by rfl) (.tmp 15) (.tmp 19) 100 (by rfl) w.heap.size 131 iE _ 3 32 Tryz.underlying100 ji.out.1 ji.out.2.1 ji.out.2.2.1 ji.out.2.2.2 rfl (by omega) _ 0 [] (by rfl) tu.o3 _ n3 _ _ (by rfl) (HE.out.below tu.b (Nat.le_refl _)) wN.out (by unfold maxLen;omega) (by omega) tu.b.size ?_
     intro A3 c3 u3 hown hgr hat
     have uG:=tu.qF hown hgr hat
     clear hown hgr hat
     refine hK.out _ _ (fun _=>gy.out _ uG.b) (fun hS=> ?_)
     replace hS:=hS (by decide)
     clear hK K
     try simp only[Act.put,List.setIfInBounds_toArray,List.set_cons_zero,List.set_cons_succ]
     refine aC 18 (hS:=hS) (h:= ?_)
     refine dh 19 (h:=fun K hK=> ?_)
     go_simp
     refine hK.out _ _ (fun _=>gy.out _ (uG.b.trans ((wall _ _).mono uG.b.size))) (fun hS=> ?_)
     replace hS:=hS (by decide)
     clear hK K
     try simp only[Act.put,List.setIfInBounds_toArray,List.set_cons_zero,List.set_cons_succ]
     refine dh 20 (h:=fun K hK=> ?_)
     go_simp
     refine hK.out _ _ (fun h=>absurd rfl h) (fun hS=> ?_)
     clear hS hK K
     try simp only[Act.put,List.setIfInBounds_toArray,List.set_cons_zero,List.set_cons_succ]
     refine aG (by kernel_rfl) ?_ _
     refine NoPanic.normal ?_
     go_wp2_with fail
     go_ret
     simp only[Nat.zero_add,List.nil_append]at uG⊢
     exact ig.out _ _ _ _ _ _ _ _ _ _ uG
    case Qn=>
     go_simp
     have xE:=ED.kF
     try simp only[World.size_alloc]at xE
     refine hK.out _ _ (fun _=>gy.out _ xE.b) (fun hS=> ?_)
     replace hS:=hS (by decide)
     clear hK K
     try simp only[Act.put,List.setIfInBounds_toArray,List.set_cons_zero,List.set_cons_succ]
     refine aj (rs:=[11]) (by kernel_rfl) (by simp) ?_
     refine ah.cons (o:= ?o2) ?ho2 (fun K hK=> ?_) ah.nil
     case ho2=>simp only[List.getElem?_toArray,List.getElem?_cons_succ,List.getElem?_cons_zero];rfl
     refine aA (by rfl) (.tmp 9) (.tmp 13) 86 (by rfl) w.heap.size 39 iD _ 1 24 Tryz.underlying86 jf.out.1 jf.out.2.1 jf.out.2.2.1 jf.out.2.2.2 rfl (by omega) _ 0 [] (by rfl) xE.o2 _ n2 _ _ (by rfl) (HD.out.below xE.b (Nat.le_refl _)) HD1.out (by unfold maxLen;omega) (by omega) xE.b.size ?_
     intro A2 c2 u2 hown hgr hat
     have Kz:=xE.qE hown hgr hat
     clear hown hgr hat
     refine hK.out _ _ (fun _=>gy.out _ Kz.b) (fun hS=> ?_)
     replace hS:=hS (by decide)
     clear hK K
     try simp only[Act.put,List.setIfInBounds_toArray,List.set_cons_zero,List.set_cons_succ]
     refine aj (rs:=[17]) (by kernel_rfl) (by simp) ?_
     refine ah.cons (o:= ?o3) ?ho3 (fun K hK=> ?_) ah.nil
     case ho3=>simp only[List.getElem?_toArray,List.getElem?_cons_succ,List.getElem?_cons_zero];rfl
     refine aA (by rfl) (.tmp 15) (.tmp 19) 100 (by rfl) w.heap.size 131 iE _ 3 32 Tryz.underlying100 ji.out.1 ji.out.2.1 ji.out.2.2.1 ji.out.2.2.2 rfl (by omega) _ 0 [] (by rfl) Kz.o3 _ n3 _ _ (by rfl) (HE.out.below Kz.b (Nat.le_refl _)) wN.out (by unfold maxLen;omega) (by omega) Kz.b.size ?_
     intro A3 c3 u3 hown hgr hat
     have KA:=Kz.qF hown hgr hat
     clear hown hgr hat
     refine hK.out _ _ (fun _=>gy.out _ KA.b) (fun hS=> ?_)
     replace hS:=hS (by decide)
     clear hK K
     try simp only[Act.put,List.setIfInBounds_toArray,List.set_cons_zero,List.set_cons_succ]
     refine aC 18 (hS:=hS) (h:= ?_)
     refine dh 19 (h:=fun K hK=> ?_)
     go_simp
     refine hK.out _ _ (fun _=>gy.out _ (KA.b.trans ((wall _ _).mono KA.b.size))) (fun hS=> ?_)
     replace hS:=hS (by decide)
     clear hK K
     try simp only[Act.put,List.setIfInBounds_toArray,List.set_cons_zero,List.set_cons_succ]
     refine dh 20 (h:=fun K hK=> ?_)
     go_simp
     refine hK.out _ _ (fun h=>absurd rfl h) (fun hS=> ?_)
     clear hS hK K
     try simp only[Act.put,List.setIfInBounds_toArray,List.set_cons_zero,List.set_cons_succ]
     refine aG (by kernel_rfl) ?_ _
     refine NoPanic.normal ?_
     go_wp2_with fail
     go_ret
     simp only[Nat.zero_add,List.nil_append]at KA⊢
     exact ig.out _ _ _ _ _ _ _ _ _ _ KA
   case Ub=>
    go_simp
    have Qo:=Qj.kF
    try simp only[World.size_alloc]at Qo
    refine hK.out _ _ (fun _=>gy.out _ Qo.b) (fun hS=> ?_)
    replace hS:=hS (by decide)
    clear hK K
    try simp only[Act.put,List.setIfInBounds_toArray,List.set_cons_zero,List.set_cons_succ]
    refine dh 6 (h:=fun K hK=> ?_)
    go_simp
    have Gn:=Qo.nM
    try simp only[World.size_alloc]at Gn
    refine hK.out _ _ (fun _=>gy.out _ Gn.b) (fun hS=> ?_)
    replace hS:=hS (by decide)
    clear hK K
    try simp only[Act.put,List.setIfInBounds_toArray,List.set_cons_zero,List.set_cons_succ]
    refine aj (rs:=[11]) (by kernel_rfl) (by simp) ?_
    refine ah.cons (o:= ?o4) ?M5 (fun K hK=> ?_) ah.nil
    case M5=>simp only[List.getElem?_toArray,List.getElem?_cons_succ,List.getElem?_cons_zero];rfl
    refine aA (by rfl) (.tmp 9) (.tmp 13) 86 (by rfl) w.heap.size 39 iD _ 1 24 Tryz.underlying86 jf.out.1 jf.out.2.1 jf.out.2.2.1 jf.out.2.2.2 rfl (by omega) _ 0 [] (by rfl) Gn.o2 _ n2 _ _ (by rfl) (HD.out.below Gn.b (Nat.le_refl _)) HD1.out (by unfold maxLen;omega) (by omega) Gn.b.size ?_
    intro A2 c2 u2 hown hgr hat
    have KC:=Gn.qE hown hgr hat
    clear hown hgr hat
    refine hK.out _ _ (fun _=>gy.out _ KC.b) (fun hS=> ?_)
    replace hS:=hS (by decide)
    clear hK K
    try simp only[Act.put,List.setIfInBounds_toArray,List.set_cons_zero,List.set_cons_succ]
    refine aj (rs:=[17]) (by kernel_rfl) (by simp) ?_
    refine ah.cons (o:= ?o5) ?PS (fun K hK=> ?_) ah.nil
    case PS=>simp only[List.getElem?_toArray,List.getElem?_cons_succ,List.getElem?_cons_zero];rfl
    refine aA (by rfl) (.tmp 15) (.tmp 19) 100 (by rfl) w.heap.size 131 iE _ 3 32 Tryz.underlying100 ji.out.1 ji.out.2.1 ji.out.2.2.1 ji.out.2.2.2 rfl (by omega) _ 0 [] (by rfl) KC.o3 _ n3 _ _ (by rfl) (HE.out.below KC.b (Nat.le_refl _)) wN.out (by unfold maxLen;omega) (by omega) KC.b.size ?_
    intro A3 c3 u3 hown hgr hat
    have KD:=KC.qF hown hgr hat
    clear hown hgr hat
    refine hK.out _ _ (fun _=>gy.out _ KD.b) (fun hS=> ?_)
    replace hS:=hS (by decide)
    clear hK K
    try simp only[Act.put,List.setIfInBounds_toArray,List.set_cons_zero,List.set_cons_succ]
    refine aC 18 (hS:=hS) (h:= ?_)
    refine dh 19 (h:=fun K hK=> ?_)
    go_simp
    refine hK.out _ _ (fun _=>gy.out _ (KD.b.trans ((wall _ _).mono KD.b.size))) (fun hS=> ?_)
    replace hS:=hS (by decide)
    clear hK K
    try simp only[Act.put,List.setIfInBounds_toArray,List.set_cons_zero,List.set_cons_succ]
    refine dh 20 (h:=fun K hK=> ?_)
    go_simp
    refine hK.out _ _ (fun h=>absurd rfl h) (fun hS=> ?_)
    clear hS hK K
    try simp only[Act.put,List.setIfInBounds_toArray,List.set_cons_zero,List.set_cons_succ]
    refine aG (by kernel_rfl) ?_ _
    refine NoPanic.normal ?_
    go_wp2_with fail
    go_ret
    simp only[Nat.zero_add,List.nil_append]at KD⊢
    exact ig.out _ _ _ _ _ _ _ _ _ _ KD
  case Qi=>
   go_simp
   have Dm:=BS.nM
   try simp only[World.size_alloc]at Dm
   refine hK.out _ _ (fun _=>gy.out _ Dm.b) (fun hS=> ?_)
   replace hS:=hS (by decide)
   clear hK K
   try simp only[Act.put,List.setIfInBounds_toArray,List.set_cons_zero,List.set_cons_succ]
   refine aj (rs:=[5,12]) (by kernel_rfl) (by simp) ?_
   refine ah.cons (o:= ?o24_0) ?Qp (fun K hK=> ?Uc) (ah.cons (o:= ?o24_1) ?Qq (fun K hK=> ?Qr) ah.nil)
   case Qp=>simp only[List.getElem?_toArray,List.getElem?_cons_succ,List.getElem?_cons_zero];rfl
   case Qq=>simp only[List.getElem?_toArray,List.getElem?_cons_succ,List.getElem?_cons_zero];rfl
   case Uc=>
    refine aA (by rfl) (.tmp 3) (.tmp 7) 99 (by rfl) w.heap.size 98 iN _ 6 48 Tryz.underlying99 mG.out.1 mG.out.2.1 mG.out.2.2.1 mG.out.2.2.2 rfl (by omega) _ 0 [] (by rfl) Dm.o1 _ n1 _ _ (by rfl) (HN.out.below Dm.b (Nat.le_refl _)) AZ.out (by unfold maxLen;omega) (by omega) Dm.b.size ?_
    intro A1 c1 u1 hown hgr hat
    have Gp:=Dm.app1 hown hgr hat
    clear hown hgr hat
    refine hK.out _ _ (fun _=>gy.out _ Gp.b) (fun hS=> ?_)
    replace hS:=hS (by decide)
    clear hK K
    try simp only[Act.put,List.setIfInBounds_toArray,List.set_cons_zero,List.set_cons_succ]
    refine aj (rs:=[11,12]) (by kernel_rfl) (by simp) ?_
    refine ah.cons (o:= ?o27_0) ?Qs (fun K hK=> ?Qt) (ah.cons (o:= ?o27_1) ?Qu (fun K hK=> ?Qv) ah.nil)
    case Qs=>simp only[List.getElem?_toArray,List.getElem?_cons_succ,List.getElem?_cons_zero];rfl
    case Qu=>simp only[List.getElem?_toArray,List.getElem?_cons_succ,List.getElem?_cons_zero];rfl
    case Qt=>
     refine aA (by rfl) (.tmp 9) (.tmp 13) 86 (by rfl) w.heap.size 39 iD _ 1 24 Tryz.underlying86 jf.out.1 jf.out.2.1 jf.out.2.2.1 jf.out.2.2.2 rfl (by omega) _ 0 [] (by rfl) Gp.o2 _ n2 _ _ (by rfl) (HD.out.below Gp.b (Nat.le_refl _)) HD1.out (by unfold maxLen;omega) (by omega) Gp.b.size ?_
     intro A2 c2 u2 hown hgr hat
     have Ud:=Gp.qE hown hgr hat
     clear hown hgr hat
     refine hK.out _ _ (fun _=>gy.out _ Ud.b) (fun hS=> ?_)
     replace hS:=hS (by decide)
     clear hK K
     try simp only[Act.put,List.setIfInBounds_toArray,List.set_cons_zero,List.set_cons_succ]
     refine dh 12 (h:=fun K hK=> ?_)
     go_simp
     have Gq:=Ud.kF
     try simp only[World.size_alloc]at Gq
     refine hK.out _ _ (fun _=>gy.out _ Gq.b) (fun hS=> ?_)
     replace hS:=hS (by decide)
     clear hK K
     try simp only[Act.put,List.setIfInBounds_toArray,List.set_cons_zero,List.set_cons_succ]
     refine aj (rs:=[17]) (by kernel_rfl) (by simp) ?_
     refine ah.cons (o:= ?o6) ?Tn (fun K hK=> ?_) ah.nil
     case Tn=>simp only[List.getElem?_toArray,List.getElem?_cons_succ,List.getElem?_cons_zero];rfl
     refine aA (by rfl) (.tmp 15) (.tmp 19) 100 (by rfl) w.heap.size 131 iE _ 3 32 Tryz.underlying100 ji.out.1 ji.out.2.1 ji.out.2.2.1 ji.out.2.2.2 rfl (by omega) _ 0 [] (by rfl) Gq.o3 _ n3 _ _ (by rfl) (HE.out.below Gq.b (Nat.le_refl _)) wN.out (by unfold maxLen;omega) (by omega) Gq.b.size ?_
     intro A3 c3 u3 hown hgr hat
     have KE:=Gq.qF hown hgr hat
     clear hown hgr hat
     refine hK.out _ _ (fun _=>gy.out _ KE.b) (fun hS=> ?_)
     replace hS:=hS (by decide)
     clear hK K
     try simp only[Act.put,List.setIfInBounds_toArray,List.set_cons_zero,List.set_cons_succ]
     refine aC 18 (hS:=hS) (h:= ?_)
     refine dh 19 (h:=fun K hK=> ?_)
     go_simp
     refine hK.out _ _ (fun _=>gy.out _ (KE.b.trans ((wall _ _).mono KE.b.size))) (fun hS=> ?_)
     replace hS:=hS (by decide)
     clear hK K
     try simp only[Act.put,List.setIfInBounds_toArray,List.set_cons_zero,List.set_cons_succ]
     refine dh 20 (h:=fun K hK=> ?_)
     go_simp
     refine hK.out _ _ (fun h=>absurd rfl h) (fun hS=> ?_)
     clear hS hK K
     try simp only[Act.put,List.setIfInBounds_toArray,List.set_cons_zero,List.set_cons_succ]
     refine aG (by kernel_rfl) ?_ _
     refine NoPanic.normal ?_
     go_wp2_with fail
     go_ret
     simp only[Nat.zero_add,List.nil_append]at KE⊢
     exact ig.out _ _ _ _ _ _ _ _ _ _ KE
    case Qv=>
     go_simp
     have Gs:=Gp.kF
     try simp only[World.size_alloc]at Gs
     refine hK.out _ _ (fun _=>gy.out _ Gs.b) (fun hS=> ?_)
     replace hS:=hS (by decide)
     clear hK K
     try simp only[Act.put,List.setIfInBounds_toArray,List.set_cons_zero,List.set_cons_succ]
     refine aj (rs:=[11]) (by kernel_rfl) (by simp) ?_
     refine ah.cons (o:= ?o7) ?Tp (fun K hK=> ?_) ah.nil
     case Tp=>simp only[List.getElem?_toArray,List.getElem?_cons_succ,List.getElem?_cons_zero];rfl
     refine aA (by rfl) (.tmp 9) (.tmp 13) 86 (by rfl) w.heap.size 39 iD _ 1 24 Tryz.underlying86 jf.out.1 jf.out.2.1 jf.out.2.2.1 jf.out.2.2.2 rfl (by omega) _ 0 [] (by rfl) Gs.o2 _ n2 _ _ (by rfl) (HD.out.below Gs.b (Nat.le_refl _)) HD1.out (by unfold maxLen;omega) (by omega) Gs.b.size ?_
     intro A2 c2 u2 hown hgr hat
     have KF:=Gs.qE hown hgr hat
     clear hown hgr hat
     refine hK.out _ _ (fun _=>gy.out _ KF.b) (fun hS=> ?_)
     replace hS:=hS (by decide)
     clear hK K
     try simp only[Act.put,List.setIfInBounds_toArray,List.set_cons_zero,List.set_cons_succ]
     refine aj (rs:=[17]) (by kernel_rfl) (by simp) ?_
     refine ah.cons (o:= ?o8) ?Om (fun K hK=> ?_) ah.nil
     case Om=>simp only[List.getElem?_toArray,List.getElem?_cons_succ,List.getElem?_cons_zero];rfl
     refine aA (by rfl) (.tmp 15) (.tmp 19) 100 (by rfl) w.heap.size 131 iE _ 3 32 Tryz.underlying100 ji.out.1 ji.out.2.1 ji.out.2.2.1 ji.out.2.2.2 rfl (by omega) _ 0 [] (by rfl) KF.o3 _ n3 _ _ (by rfl) (HE.out.below KF.b (Nat.le_refl _)) wN.out (by unfold maxLen;omega) (by omega) KF.b.size ?_
     intro A3 c3 u3 hown hgr hat
     have KG:=KF.qF hown hgr hat
     clear hown hgr hat
     refine hK.out _ _ (fun _=>gy.out _ KG.b) (fun hS=> ?_)
     replace hS:=hS (by decide)
     clear hK K
     try simp only[Act.put,List.setIfInBounds_toArray,List.set_cons_zero,List.set_cons_succ]
     refine aC 18 (hS:=hS) (h:= ?_)
     refine dh 19 (h:=fun K hK=> ?_)
     go_simp
     refine hK.out _ _ (fun _=>gy.out _ (KG.b.trans ((wall _ _).mono KG.b.size))) (fun hS=> ?_)
     replace hS:=hS (by decide)
     clear hK K
     try simp only[Act.put,List.setIfInBounds_toArray,List.set_cons_zero,List.set_cons_succ]
     refine dh 20 (h:=fun K hK=> ?_)
     go_simp
     refine hK.out _ _ (fun h=>absurd rfl h) (fun hS=> ?_)
     clear hS hK K
     try simp only[Act.put,List.setIfInBounds_toArray,List.set_cons_zero,List.set_cons_succ]
     refine aG (by kernel_rfl) ?_ _
     refine NoPanic.normal ?_
     go_wp2_with fail
     go_ret
     simp only[Nat.zero_add,List.nil_append]at KG⊢
     exact ig.out _ _ _ _ _ _ _ _ _ _ KG
   case Qr=>
    go_simp
    have Gt:=Dm.kF
    try simp only[World.size_alloc]at Gt
    refine hK.out _ _ (fun _=>gy.out _ Gt.b) (fun hS=> ?_)
    replace hS:=hS (by decide)
    clear hK K
    try simp only[Act.put,List.setIfInBounds_toArray,List.set_cons_zero,List.set_cons_succ]
    refine aj (rs:=[5]) (by kernel_rfl) (by simp) ?_
    refine ah.cons (o:= ?o9) ?Tq (fun K hK=> ?_) ah.nil
    case Tq=>simp only[List.getElem?_toArray,List.getElem?_cons_succ,List.getElem?_cons_zero];rfl
    refine aA (by rfl) (.tmp 3) (.tmp 7) 99 (by rfl) w.heap.size 98 iN _ 6 48 Tryz.underlying99 mG.out.1 mG.out.2.1 mG.out.2.2.1 mG.out.2.2.2 rfl (by omega) _ 0 [] (by rfl) Gt.o1 _ n1 _ _ (by rfl) (HN.out.below Gt.b (Nat.le_refl _)) AZ.out (by unfold maxLen;omega) (by omega) Gt.b.size ?_
    intro A1 c1 u1 hown hgr hat
    have KH:=Gt.app1 hown hgr hat
    clear hown hgr hat
    refine hK.out _ _ (fun _=>gy.out _ KH.b) (fun hS=> ?_)
    replace hS:=hS (by decide)
    clear hK K
    try simp only[Act.put,List.setIfInBounds_toArray,List.set_cons_zero,List.set_cons_succ]
    refine aj (rs:=[11]) (by kernel_rfl) (by simp) ?_
    refine ah.cons (o:= ?Z4) ?JW (fun K hK=> ?_) ah.nil
    case JW=>simp only[List.getElem?_toArray,List.getElem?_cons_succ,List.getElem?_cons_zero];rfl
    refine aA (by rfl) (.tmp 9) (.tmp 13) 86 (by rfl) w.heap.size 39 iD _ 1 24 Tryz.underlying86 jf.out.1 jf.out.2.1 jf.out.2.2.1 jf.out.2.2.2 rfl (by omega) _ 0 [] (by rfl) KH.o2 _ n2 _ _ (by rfl) (HD.out.below KH.b (Nat.le_refl _)) HD1.out (by unfold maxLen;omega) (by omega) KH.b.size ?_
    intro A2 c2 u2 hown hgr hat
    have KI:=KH.qE hown hgr hat
    clear hown hgr hat
    refine hK.out _ _ (fun _=>gy.out _ KI.b) (fun hS=> ?_)
    replace hS:=hS (by decide)
    clear hK K
    try simp only[Act.put,List.setIfInBounds_toArray,List.set_cons_zero,List.set_cons_succ]
    refine aj (rs:=[17]) (by kernel_rfl) (by simp) ?_
    refine ah.cons (o:= ?Z5) ?JX (fun K hK=> ?_) ah.nil
    case JX=>simp only[List.getElem?_toArray,List.getElem?_cons_succ,List.getElem?_cons_zero];rfl
    refine aA (by rfl) (.tmp 15) (.tmp 19) 100 (by rfl) w.heap.size 131 iE _ 3 32 Tryz.underlying100 ji.out.1 ji.out.2.1 ji.out.2.2.1 ji.out.2.2.2 rfl (by omega) _ 0 [] (by rfl) KI.o3 _ n3 _ _ (by rfl) (HE.out.below KI.b (Nat.le_refl _)) wN.out (by unfold maxLen;omega) (by omega) KI.b.size ?_
    intro A3 c3 u3 hown hgr hat
    have KJ:=KI.qF hown hgr hat
    clear hown hgr hat
    refine hK.out _ _ (fun _=>gy.out _ KJ.b) (fun hS=> ?_)
    replace hS:=hS (by decide)
    clear hK K
    try simp only[Act.put,List.setIfInBounds_toArray,List.set_cons_zero,List.set_cons_succ]
    refine aC 18 (hS:=hS) (h:= ?_)
    refine dh 19 (h:=fun K hK=> ?_)
    go_simp
    refine hK.out _ _ (fun _=>gy.out _ (KJ.b.trans ((wall _ _).mono KJ.b.size))) (fun hS=> ?_)
    replace hS:=hS (by decide)
    clear hK K
    try simp only[Act.put,List.setIfInBounds_toArray,List.set_cons_zero,List.set_cons_succ]
    refine dh 20 (h:=fun K hK=> ?_)
    go_simp
    refine hK.out _ _ (fun h=>absurd rfl h) (fun hS=> ?_)
    clear hS hK K
    try simp only[Act.put,List.setIfInBounds_toArray,List.set_cons_zero,List.set_cons_succ]
    refine aG (by kernel_rfl) ?_ _
    refine NoPanic.normal ?_
    go_wp2_with fail
    go_ret
    simp only[Nat.zero_add,List.nil_append]at KJ⊢
    exact ig.out _ _ _ _ _ _ _ _ _ _ KJ
  case T9=>
   go_simp
   have Dn:=BS.kF
   try simp only[World.size_alloc]at Dn
   refine hK.out _ _ (fun _=>gy.out _ Dn.b) (fun hS=> ?_)
   replace hS:=hS (by decide)
   clear hK K
   try simp only[Act.put,List.setIfInBounds_toArray,List.set_cons_zero,List.set_cons_succ]
   refine aj (rs:=[5,6]) (by kernel_rfl) (by simp) ?_
   refine ah.cons (o:= ?o40_0) ?Qw (fun K hK=> ?Ue) (ah.cons (o:= ?o40_1) ?Qx (fun K hK=> ?Uf) ah.nil)
   case Qw=>simp only[List.getElem?_toArray,List.getElem?_cons_succ,List.getElem?_cons_zero];rfl
   case Qx=>simp only[List.getElem?_toArray,List.getElem?_cons_succ,List.getElem?_cons_zero];rfl
   case Ue=>
    refine aA (by rfl) (.tmp 3) (.tmp 7) 99 (by rfl) w.heap.size 98 iN _ 6 48 Tryz.underlying99 mG.out.1 mG.out.2.1 mG.out.2.2.1 mG.out.2.2.2 rfl (by omega) _ 0 [] (by rfl) Dn.o1 _ n1 _ _ (by rfl) (HN.out.below Dn.b (Nat.le_refl _)) AZ.out (by unfold maxLen;omega) (by omega) Dn.b.size ?_
    intro A1 c1 u1 hown hgr hat
    have Ug:=Dn.app1 hown hgr hat
    clear hown hgr hat
    refine hK.out _ _ (fun _=>gy.out _ Ug.b) (fun hS=> ?_)
    replace hS:=hS (by decide)
    clear hK K
    try simp only[Act.put,List.setIfInBounds_toArray,List.set_cons_zero,List.set_cons_succ]
    refine dh 6 (h:=fun K hK=> ?_)
    go_simp
    have Gu:=Ug.nM
    try simp only[World.size_alloc]at Gu
    refine hK.out _ _ (fun _=>gy.out _ Gu.b) (fun hS=> ?_)
    replace hS:=hS (by decide)
    clear hK K
    try simp only[Act.put,List.setIfInBounds_toArray,List.set_cons_zero,List.set_cons_succ]
    refine aj (rs:=[11]) (by kernel_rfl) (by simp) ?_
    refine ah.cons (o:= ?Z6) ?JY (fun K hK=> ?_) ah.nil
    case JY=>simp only[List.getElem?_toArray,List.getElem?_cons_succ,List.getElem?_cons_zero];rfl
    refine aA (by rfl) (.tmp 9) (.tmp 13) 86 (by rfl) w.heap.size 39 iD _ 1 24 Tryz.underlying86 jf.out.1 jf.out.2.1 jf.out.2.2.1 jf.out.2.2.2 rfl (by omega) _ 0 [] (by rfl) Gu.o2 _ n2 _ _ (by rfl) (HD.out.below Gu.b (Nat.le_refl _)) HD1.out (by unfold maxLen;omega) (by omega) Gu.b.size ?_
    intro A2 c2 u2 hown hgr hat
    have KL:=Gu.qE hown hgr hat
    clear hown hgr hat
    refine hK.out _ _ (fun _=>gy.out _ KL.b) (fun hS=> ?_)
    replace hS:=hS (by decide)
    clear hK K
    try simp only[Act.put,List.setIfInBounds_toArray,List.set_cons_zero,List.set_cons_succ]
    refine aj (rs:=[17]) (by kernel_rfl) (by simp) ?_
    refine ah.cons (o:= ?Z7) ?J2 (fun K hK=> ?_) ah.nil
    case J2=>simp only[List.getElem?_toArray,List.getElem?_cons_succ,List.getElem?_cons_zero];rfl
    refine aA (by rfl) (.tmp 15) (.tmp 19) 100 (by rfl) w.heap.size 131 iE _ 3 32 Tryz.underlying100 ji.out.1 ji.out.2.1 ji.out.2.2.1 ji.out.2.2.2 rfl (by omega) _ 0 [] (by rfl) KL.o3 _ n3 _ _ (by rfl) (HE.out.below KL.b (Nat.le_refl _)) wN.out (by unfold maxLen;omega) (by omega) KL.b.size ?_
    intro A3 c3 u3 hown hgr hat
    have KM:=KL.qF hown hgr hat
    clear hown hgr hat
    refine hK.out _ _ (fun _=>gy.out _ KM.b) (fun hS=> ?_)
    replace hS:=hS (by decide)
    clear hK K
    try simp only[Act.put,List.setIfInBounds_toArray,List.set_cons_zero,List.set_cons_succ]
    refine aC 18 (hS:=hS) (h:= ?_)
    refine dh 19 (h:=fun K hK=> ?_)
    go_simp
    refine hK.out _ _ (fun _=>gy.out _ (KM.b.trans ((wall _ _).mono KM.b.size))) (fun hS=> ?_)
    replace hS:=hS (by decide)
    clear hK K
    try simp only[Act.put,List.setIfInBounds_toArray,List.set_cons_zero,List.set_cons_succ]
    refine dh 20 (h:=fun K hK=> ?_)
    go_simp
    refine hK.out _ _ (fun h=>absurd rfl h) (fun hS=> ?_)
    clear hS hK K
    try simp only[Act.put,List.setIfInBounds_toArray,List.set_cons_zero,List.set_cons_succ]
    refine aG (by kernel_rfl) ?_ _
    refine NoPanic.normal ?_
    go_wp2_with fail
    go_ret
    simp only[Nat.zero_add,List.nil_append]at KM⊢
    exact ig.out _ _ _ _ _ _ _ _ _ _ KM
   case Uf=>
    go_simp
    have Gv:=Dn.nM
    try simp only[World.size_alloc]at Gv
    refine hK.out _ _ (fun _=>gy.out _ Gv.b) (fun hS=> ?_)
    replace hS:=hS (by decide)
    clear hK K
    try simp only[Act.put,List.setIfInBounds_toArray,List.set_cons_zero,List.set_cons_succ]
    refine aj (rs:=[5]) (by kernel_rfl) (by simp) ?_
    refine ah.cons (o:= ?Z8) ?J3 (fun K hK=> ?_) ah.nil
    case J3=>simp only[List.getElem?_toArray,List.getElem?_cons_succ,List.getElem?_cons_zero];rfl
    refine aA (by rfl) (.tmp 3) (.tmp 7) 99 (by rfl) w.heap.size 98 iN _ 6 48 Tryz.underlying99 mG.out.1 mG.out.2.1 mG.out.2.2.1 mG.out.2.2.2 rfl (by omega) _ 0 [] (by rfl) Gv.o1 _ n1 _ _ (by rfl) (HN.out.below Gv.b (Nat.le_refl _)) AZ.out (by unfold maxLen;omega) (by omega) Gv.b.size ?_
    intro A1 c1 u1 hown hgr hat
    have KN:=Gv.app1 hown hgr hat
    clear hown hgr hat
    refine hK.out _ _ (fun _=>gy.out _ KN.b) (fun hS=> ?_)
    replace hS:=hS (by decide)
    clear hK K
    try simp only[Act.put,List.setIfInBounds_toArray,List.set_cons_zero,List.set_cons_succ]
    refine aj (rs:=[11]) (by kernel_rfl) (by simp) ?_
    refine ah.cons (o:= ?Z9) ?J4 (fun K hK=> ?_) ah.nil
    case J4=>simp only[List.getElem?_toArray,List.getElem?_cons_succ,List.getElem?_cons_zero];rfl
    refine aA (by rfl) (.tmp 9) (.tmp 13) 86 (by rfl) w.heap.size 39 iD _ 1 24 Tryz.underlying86 jf.out.1 jf.out.2.1 jf.out.2.2.1 jf.out.2.2.2 rfl (by omega) _ 0 [] (by rfl) KN.o2 _ n2 _ _ (by rfl) (HD.out.below KN.b (Nat.le_refl _)) HD1.out (by unfold maxLen;omega) (by omega) KN.b.size ?_
    intro A2 c2 u2 hown hgr hat
    have KO:=KN.qE hown hgr hat
    clear hown hgr hat
    refine hK.out _ _ (fun _=>gy.out _ KO.b) (fun hS=> ?_)
    replace hS:=hS (by decide)
    clear hK K
    try simp only[Act.put,List.setIfInBounds_toArray,List.set_cons_zero,List.set_cons_succ]
    refine aj (rs:=[17]) (by kernel_rfl) (by simp) ?_
    refine ah.cons (o:= ?o16) ?J5 (fun K hK=> ?_) ah.nil
    case J5=>simp only[List.getElem?_toArray,List.getElem?_cons_succ,List.getElem?_cons_zero];rfl
    refine aA (by rfl) (.tmp 15) (.tmp 19) 100 (by rfl) w.heap.size 131 iE _ 3 32 Tryz.underlying100 ji.out.1 ji.out.2.1 ji.out.2.2.1 ji.out.2.2.2 rfl (by omega) _ 0 [] (by rfl) KO.o3 _ n3 _ _ (by rfl) (HE.out.below KO.b (Nat.le_refl _)) wN.out (by unfold maxLen;omega) (by omega) KO.b.size ?_
    intro A3 c3 u3 hown hgr hat
    have KP:=KO.qF hown hgr hat
    clear hown hgr hat
    refine hK.out _ _ (fun _=>gy.out _ KP.b) (fun hS=> ?_)
    replace hS:=hS (by decide)
    clear hK K
    try simp only[Act.put,List.setIfInBounds_toArray,List.set_cons_zero,List.set_cons_succ]
    refine aC 18 (hS:=hS) (h:= ?_)
    refine dh 19 (h:=fun K hK=> ?_)
    go_simp
    refine hK.out _ _ (fun _=>gy.out _ (KP.b.trans ((wall _ _).mono KP.b.size))) (fun hS=> ?_)
    replace hS:=hS (by decide)
    clear hK K
    try simp only[Act.put,List.setIfInBounds_toArray,List.set_cons_zero,List.set_cons_succ]
    refine dh 20 (h:=fun K hK=> ?_)
    go_simp
    refine hK.out _ _ (fun h=>absurd rfl h) (fun hS=> ?_)
    clear hS hK K
    try simp only[Act.put,List.setIfInBounds_toArray,List.set_cons_zero,List.set_cons_succ]
    refine aG (by kernel_rfl) ?_ _
    refine NoPanic.normal ?_
    go_wp2_with fail
    go_ret
    simp only[Nat.zero_add,List.nil_append]at KP⊢
    exact ig.out _ _ _ _ _ _ _ _ _ _ KP
 case Yj=>
  go_simp
  have Nj:=wX.out.nM
  try simp only[World.size_alloc]at Nj
  refine hK.out _ _ (fun _=>gy.out _ Nj.b) (fun hS=> ?_)
  replace hS:=hS (by decide)
  clear hK K
  try simp only[Act.put,List.setIfInBounds_toArray,List.set_cons_zero,List.set_cons_succ]
  refine aj (rs:=[0,12]) (by kernel_rfl) (by simp) ?_
  refine ah.cons (o:= ?o51_0) ?Qy (fun K hK=> ?Uh) (ah.cons (o:= ?o51_1) ?Qz (fun K hK=> ?QA) ah.nil)
  case Qy=>simp only[List.getElem?_toArray,List.getElem?_cons_succ,List.getElem?_cons_zero];rfl
  case Qz=>simp only[List.getElem?_toArray,List.getElem?_cons_succ,List.getElem?_cons_zero];rfl
  case Uh=>
   go_simp
   have Dp:=Nj.wM
   try simp only[World.size_alloc]at Dp
   refine hK.out _ _ (fun _=>gy.out _ Dp.b) (fun hS=> ?_)
   replace hS:=hS (by decide)
   clear hK K
   try simp only[Act.put,List.setIfInBounds_toArray,List.set_cons_zero,List.set_cons_succ]
   refine aj (rs:=[5,12]) (by kernel_rfl) (by simp) ?_
   refine ah.cons (o:= ?o54_0) ?QB (fun K hK=> ?Ui) (ah.cons (o:= ?o54_1) ?QC (fun K hK=> ?QD) ah.nil)
   case QB=>simp only[List.getElem?_toArray,List.getElem?_cons_succ,List.getElem?_cons_zero];rfl
   case QC=>simp only[List.getElem?_toArray,List.getElem?_cons_succ,List.getElem?_cons_zero];rfl
   case Ui=>
    refine aA (by rfl) (.tmp 3) (.tmp 7) 99 (by rfl) w.heap.size 98 iN _ 6 48 Tryz.underlying99 mG.out.1 mG.out.2.1 mG.out.2.2.1 mG.out.2.2.2 rfl (by omega) _ 0 [] (by rfl) Dp.o1 _ n1 _ _ (by rfl) (HN.out.below Dp.b (Nat.le_refl _)) AZ.out (by unfold maxLen;omega) (by omega) Dp.b.size ?_
    intro A1 c1 u1 hown hgr hat
    have Gw:=Dp.app1 hown hgr hat
    clear hown hgr hat
    refine hK.out _ _ (fun _=>gy.out _ Gw.b) (fun hS=> ?_)
    replace hS:=hS (by decide)
    clear hK K
    try simp only[Act.put,List.setIfInBounds_toArray,List.set_cons_zero,List.set_cons_succ]
    refine aj (rs:=[11,12]) (by kernel_rfl) (by simp) ?_
    refine ah.cons (o:= ?o57_0) ?QE (fun K hK=> ?QF) (ah.cons (o:= ?o57_1) ?QG (fun K hK=> ?QH) ah.nil)
    case QE=>simp only[List.getElem?_toArray,List.getElem?_cons_succ,List.getElem?_cons_zero];rfl
    case QG=>simp only[List.getElem?_toArray,List.getElem?_cons_succ,List.getElem?_cons_zero];rfl
    case QF=>
     refine aA (by rfl) (.tmp 9) (.tmp 13) 86 (by rfl) w.heap.size 39 iD _ 1 24 Tryz.underlying86 jf.out.1 jf.out.2.1 jf.out.2.2.1 jf.out.2.2.2 rfl (by omega) _ 0 [] (by rfl) Gw.o2 _ n2 _ _ (by rfl) (HD.out.below Gw.b (Nat.le_refl _)) HD1.out (by unfold maxLen;omega) (by omega) Gw.b.size ?_
     intro A2 c2 u2 hown hgr hat
     have Uj:=Gw.qE hown hgr hat
     clear hown hgr hat
     refine hK.out _ _ (fun _=>gy.out _ Uj.b) (fun hS=> ?_)
     replace hS:=hS (by decide)
     clear hK K
     try simp only[Act.put,List.setIfInBounds_toArray,List.set_cons_zero,List.set_cons_succ]
     refine dh 12 (h:=fun K hK=> ?_)
     go_simp
     have Gx:=Uj.kF
     try simp only[World.size_alloc]at Gx
     refine hK.out _ _ (fun _=>gy.out _ Gx.b) (fun hS=> ?_)
     replace hS:=hS (by decide)
     clear hK K
     try simp only[Act.put,List.setIfInBounds_toArray,List.set_cons_zero,List.set_cons_succ]
     refine aj (rs:=[17]) (by kernel_rfl) (by simp) ?_
     refine ah.cons (o:= ?Z_) ?J6 (fun K hK=> ?_) ah.nil
     case J6=>simp only[List.getElem?_toArray,List.getElem?_cons_succ,List.getElem?_cons_zero];rfl
     refine aA (by rfl) (.tmp 15) (.tmp 19) 100 (by rfl) w.heap.size 131 iE _ 3 32 Tryz.underlying100 ji.out.1 ji.out.2.1 ji.out.2.2.1 ji.out.2.2.2 rfl (by omega) _ 0 [] (by rfl) Gx.o3 _ n3 _ _ (by rfl) (HE.out.below Gx.b (Nat.le_refl _)) wN.out (by unfold maxLen;omega) (by omega) Gx.b.size ?_
     intro A3 c3 u3 hown hgr hat
     have KQ:=Gx.qF hown hgr hat
     clear hown hgr hat
     refine hK.out _ _ (fun _=>gy.out _ KQ.b) (fun hS=> ?_)
     replace hS:=hS (by decide)
     clear hK K
     try simp only[Act.put,List.setIfInBounds_toArray,List.set_cons_zero,List.set_cons_succ]
     refine aC 18 (hS:=hS) (h:= ?_)
     refine dh 19 (h:=fun K hK=> ?_)
     go_simp
     refine hK.out _ _ (fun _=>gy.out _ (KQ.b.trans ((wall _ _).mono KQ.b.size))) (fun hS=> ?_)
     replace hS:=hS (by decide)
     clear hK K
     try simp only[Act.put,List.setIfInBounds_toArray,List.set_cons_zero,List.set_cons_succ]
     refine dh 20 (h:=fun K hK=> ?_)
     go_simp
     refine hK.out _ _ (fun h=>absurd rfl h) (fun hS=> ?_)
     clear hS hK K
     try simp only[Act.put,List.setIfInBounds_toArray,List.set_cons_zero,List.set_cons_succ]
     refine aG (by kernel_rfl) ?_ _
     refine NoPanic.normal ?_
     go_wp2_with fail
     go_ret
     simp only[Nat.zero_add,List.nil_append]at KQ⊢
     exact ig.out _ _ _ _ _ _ _ _ _ _ KQ
    case QH=>
     go_simp
     have Gy:=Gw.kF
     try simp only[World.size_alloc]at Gy
     refine hK.out _ _ (fun _=>gy.out _ Gy.b) (fun hS=> ?_)
     replace hS:=hS (by decide)
     clear hK K
     try simp only[Act.put,List.setIfInBounds_toArray,List.set_cons_zero,List.set_cons_succ]
     refine aj (rs:=[11]) (by kernel_rfl) (by simp) ?_
     refine ah.cons (o:= ?o18) ?J7 (fun K hK=> ?_) ah.nil
     case J7=>simp only[List.getElem?_toArray,List.getElem?_cons_succ,List.getElem?_cons_zero];rfl
     refine aA (by rfl) (.tmp 9) (.tmp 13) 86 (by rfl) w.heap.size 39 iD _ 1 24 Tryz.underlying86 jf.out.1 jf.out.2.1 jf.out.2.2.1 jf.out.2.2.2 rfl (by omega) _ 0 [] (by rfl) Gy.o2 _ n2 _ _ (by rfl) (HD.out.below Gy.b (Nat.le_refl _)) HD1.out (by unfold maxLen;omega) (by omega) Gy.b.size ?_
     intro A2 c2 u2 hown hgr hat
     have KR:=Gy.qE hown hgr hat
     clear hown hgr hat
     refine hK.out _ _ (fun _=>gy.out _ KR.b) (fun hS=> ?_)
     replace hS:=hS (by decide)
     clear hK K
     try simp only[Act.put,List.setIfInBounds_toArray,List.set_cons_zero,List.set_cons_succ]
     refine aj (rs:=[17]) (by kernel_rfl) (by simp) ?_
     refine ah.cons (o:= ?o19) ?J8 (fun K hK=> ?_) ah.nil
     case J8=>simp only[List.getElem?_toArray,List.getElem?_cons_succ,List.getElem?_cons_zero];rfl
     refine aA (by rfl) (.tmp 15) (.tmp 19) 100 (by rfl) w.heap.size 131 iE _ 3 32 Tryz.underlying100 ji.out.1 ji.out.2.1 ji.out.2.2.1 ji.out.2.2.2 rfl (by omega) _ 0 [] (by rfl) KR.o3 _ n3 _ _ (by rfl) (HE.out.below KR.b (Nat.le_refl _)) wN.out (by unfold maxLen;omega) (by omega) KR.b.size ?_
     intro A3 c3 u3 hown hgr hat
     have KS:=KR.qF hown hgr hat
     clear hown hgr hat
     refine hK.out _ _ (fun _=>gy.out _ KS.b) (fun hS=> ?_)
     replace hS:=hS (by decide)
     clear hK K
     try simp only[Act.put,List.setIfInBounds_toArray,List.set_cons_zero,List.set_cons_succ]
     refine aC 18 (hS:=hS) (h:= ?_)
     refine dh 19 (h:=fun K hK=> ?_)
     go_simp
     refine hK.out _ _ (fun _=>gy.out _ (KS.b.trans ((wall _ _).mono KS.b.size))) (fun hS=> ?_)
     replace hS:=hS (by decide)
     clear hK K
     try simp only[Act.put,List.setIfInBounds_toArray,List.set_cons_zero,List.set_cons_succ]
     refine dh 20 (h:=fun K hK=> ?_)
     go_simp
     refine hK.out _ _ (fun h=>absurd rfl h) (fun hS=> ?_)
     clear hS hK K
     try simp only[Act.put,List.setIfInBounds_toArray,List.set_cons_zero,List.set_cons_succ]
     refine aG (by kernel_rfl) ?_ _
     refine NoPanic.normal ?_
     go_wp2_with fail
     go_ret
     simp only[Nat.zero_add,List.nil_append]at KS⊢
     exact ig.out _ _ _ _ _ _ _ _ _ _ KS
   case QD=>
    go_simp
    have Gz:=Dp.kF
    try simp only[World.size_alloc]at Gz
    refine hK.out _ _ (fun _=>gy.out _ Gz.b) (fun hS=> ?_)
    replace hS:=hS (by decide)
    clear hK K
    try simp only[Act.put,List.setIfInBounds_toArray,List.set_cons_zero,List.set_cons_succ]
    refine aj (rs:=[5]) (by kernel_rfl) (by simp) ?_
    refine ah.cons (o:= ?o20) ?J9 (fun K hK=> ?_) ah.nil
    case J9=>simp only[List.getElem?_toArray,List.getElem?_cons_succ,List.getElem?_cons_zero];rfl
    refine aA (by rfl) (.tmp 3) (.tmp 7) 99 (by rfl) w.heap.size 98 iN _ 6 48 Tryz.underlying99 mG.out.1 mG.out.2.1 mG.out.2.2.1 mG.out.2.2.2 rfl (by omega) _ 0 [] (by rfl) Gz.o1 _ n1 _ _ (by rfl) (HN.out.below Gz.b (Nat.le_refl _)) AZ.out (by unfold maxLen;omega) (by omega) Gz.b.size ?_
    intro A1 c1 u1 hown hgr hat
    have KT:=Gz.app1 hown hgr hat
    clear hown hgr hat
    refine hK.out _ _ (fun _=>gy.out _ KT.b) (fun hS=> ?_)
    replace hS:=hS (by decide)
    clear hK K
    try simp only[Act.put,List.setIfInBounds_toArray,List.set_cons_zero,List.set_cons_succ]
    refine aj (rs:=[11]) (by kernel_rfl) (by simp) ?_
    refine ah.cons (o:= ?o21) ?J_ (fun K hK=> ?_) ah.nil
    case J_=>simp only[List.getElem?_toArray,List.getElem?_cons_succ,List.getElem?_cons_zero];rfl
    refine aA (by rfl) (.tmp 9) (.tmp 13) 86 (by rfl) w.heap.size 39 iD _ 1 24 Tryz.underlying86 jf.out.1 jf.out.2.1 jf.out.2.2.1 jf.out.2.2.2 rfl (by omega) _ 0 [] (by rfl) KT.o2 _ n2 _ _ (by rfl) (HD.out.below KT.b (Nat.le_refl _)) HD1.out (by unfold maxLen;omega) (by omega) KT.b.size ?_
    intro A2 c2 u2 hown hgr hat
    have KU:=KT.qE hown hgr hat
    clear hown hgr hat
    refine hK.out _ _ (fun _=>gy.out _ KU.b) (fun hS=> ?_)
    replace hS:=hS (by decide)
    clear hK K
    try simp only[Act.put,List.setIfInBounds_toArray,List.set_cons_zero,List.set_cons_succ]
    refine aj (rs:=[17]) (by kernel_rfl) (by simp) ?_
    refine ah.cons (o:= ?o22) ?Ka (fun K hK=> ?_) ah.nil
    case Ka=>simp only[List.getElem?_toArray,List.getElem?_cons_succ,List.getElem?_cons_zero];rfl
    refine aA (by rfl) (.tmp 15) (.tmp 19) 100 (by rfl) w.heap.size 131 iE _ 3 32 Tryz.underlying100 ji.out.1 ji.out.2.1 ji.out.2.2.1 ji.out.2.2.2 rfl (by omega) _ 0 [] (by rfl) KU.o3 _ n3 _ _ (by rfl) (HE.out.below KU.b (Nat.le_refl _)) wN.out (by unfold maxLen;omega) (by omega) KU.b.size ?_
    intro A3 c3 u3 hown hgr hat
    have KV:=KU.qF hown hgr hat
    clear hown hgr hat
    refine hK.out _ _ (fun _=>gy.out _ KV.b) (fun hS=> ?_)
    replace hS:=hS (by decide)
    clear hK K
    try simp only[Act.put,List.setIfInBounds_toArray,List.set_cons_zero,List.set_cons_succ]
    refine aC 18 (hS:=hS) (h:= ?_)
    refine dh 19 (h:=fun K hK=> ?_)
    go_simp
    refine hK.out _ _ (fun _=>gy.out _ (KV.b.trans ((wall _ _).mono KV.b.size))) (fun hS=> ?_)
    replace hS:=hS (by decide)
    clear hK K
    try simp only[Act.put,List.setIfInBounds_toArray,List.set_cons_zero,List.set_cons_succ]
    refine dh 20 (h:=fun K hK=> ?_)
    go_simp
    refine hK.out _ _ (fun h=>absurd rfl h) (fun hS=> ?_)
    clear hS hK K
    try simp only[Act.put,List.setIfInBounds_toArray,List.set_cons_zero,List.set_cons_succ]
    refine aG (by kernel_rfl) ?_ _
    refine NoPanic.normal ?_
    go_wp2_with fail
    go_ret
    simp only[Nat.zero_add,List.nil_append]at KV⊢
    exact ig.out _ _ _ _ _ _ _ _ _ _ KV
  case QA=>
   go_simp
   have QI:=Nj.kF
   try simp only[World.size_alloc]at QI
   refine hK.out _ _ (fun _=>gy.out _ QI.b) (fun hS=> ?_)
   replace hS:=hS (by decide)
   clear hK K
   try simp only[Act.put,List.setIfInBounds_toArray,List.set_cons_zero,List.set_cons_succ]
   refine dh 0 (h:=fun K hK=> ?_)
   go_simp
   have GA:=QI.wM
   try simp only[World.size_alloc]at GA
   refine hK.out _ _ (fun _=>gy.out _ GA.b) (fun hS=> ?_)
   replace hS:=hS (by decide)
   clear hK K
   try simp only[Act.put,List.setIfInBounds_toArray,List.set_cons_zero,List.set_cons_succ]
   refine aj (rs:=[5]) (by kernel_rfl) (by simp) ?_
   refine ah.cons (o:= ?o23) ?Kc (fun K hK=> ?_) ah.nil
   case Kc=>simp only[List.getElem?_toArray,List.getElem?_cons_succ,List.getElem?_cons_zero];rfl
   refine aA (by rfl) (.tmp 3) (.tmp 7) 99 (by rfl) w.heap.size 98 iN _ 6 48 Tryz.underlying99 mG.out.1 mG.out.2.1 mG.out.2.2.1 mG.out.2.2.2 rfl (by omega) _ 0 [] (by rfl) GA.o1 _ n1 _ _ (by rfl) (HN.out.below GA.b (Nat.le_refl _)) AZ.out (by unfold maxLen;omega) (by omega) GA.b.size ?_
   intro A1 c1 u1 hown hgr hat
   have KW:=GA.app1 hown hgr hat
   clear hown hgr hat
   refine hK.out _ _ (fun _=>gy.out _ KW.b) (fun hS=> ?_)
   replace hS:=hS (by decide)
   clear hK K
   try simp only[Act.put,List.setIfInBounds_toArray,List.set_cons_zero,List.set_cons_succ]
   refine aj (rs:=[11]) (by kernel_rfl) (by simp) ?_
   refine ah.cons (o:= ?o24) ?Ke (fun K hK=> ?_) ah.nil
   case Ke=>simp only[List.getElem?_toArray,List.getElem?_cons_succ,List.getElem?_cons_zero];rfl
   refine aA (by rfl) (.tmp 9) (.tmp 13) 86 (by rfl) w.heap.size 39 iD _ 1 24 Tryz.underlying86 jf.out.1 jf.out.2.1 jf.out.2.2.1 jf.out.2.2.2 rfl (by omega) _ 0 [] (by rfl) KW.o2 _ n2 _ _ (by rfl) (HD.out.below KW.b (Nat.le_refl _)) HD1.out (by unfold maxLen;omega) (by omega) KW.b.size ?_
   intro A2 c2 u2 hown hgr hat
   have KX:=KW.qE hown hgr hat
   clear hown hgr hat
   refine hK.out _ _ (fun _=>gy.out _ KX.b) (fun hS=> ?_)
   replace hS:=hS (by decide)
   clear hK K
   try simp only[Act.put,List.setIfInBounds_toArray,List.set_cons_zero,List.set_cons_succ]
   refine aj (rs:=[17]) (by kernel_rfl) (by simp) ?_
   refine ah.cons (o:= ?o25) ?P6 (fun K hK=> ?_) ah.nil
   case P6=>simp only[List.getElem?_toArray,List.getElem?_cons_succ,List.getElem?_cons_zero];rfl
   refine aA (by rfl) (.tmp 15) (.tmp 19) 100 (by rfl) w.heap.size 131 iE _ 3 32 Tryz.underlying100 ji.out.1 ji.out.2.1 ji.out.2.2.1 ji.out.2.2.2 rfl (by omega) _ 0 [] (by rfl) KX.o3 _ n3 _ _ (by rfl) (HE.out.below KX.b (Nat.le_refl _)) wN.out (by unfold maxLen;omega) (by omega) KX.b.size ?_
   intro A3 c3 u3 hown hgr hat
   have KY:=KX.qF hown hgr hat
   clear hown hgr hat
   refine hK.out _ _ (fun _=>gy.out _ KY.b) (fun hS=> ?_)
   replace hS:=hS (by decide)
   clear hK K
   try simp only[Act.put,List.setIfInBounds_toArray,List.set_cons_zero,List.set_cons_succ]
   refine aC 18 (hS:=hS) (h:= ?_)
   refine dh 19 (h:=fun K hK=> ?_)
   go_simp
   refine hK.out _ _ (fun _=>gy.out _ (KY.b.trans ((wall _ _).mono KY.b.size))) (fun hS=> ?_)
   replace hS:=hS (by decide)
   clear hK K
   try simp only[Act.put,List.setIfInBounds_toArray,List.set_cons_zero,List.set_cons_succ]
   refine dh 20 (h:=fun K hK=> ?_)
   go_simp
   refine hK.out _ _ (fun h=>absurd rfl h) (fun hS=> ?_)
   clear hS hK K
   try simp only[Act.put,List.setIfInBounds_toArray,List.set_cons_zero,List.set_cons_succ]
   refine aG (by kernel_rfl) ?_ _
   refine NoPanic.normal ?_
   go_wp2_with fail
   go_ret
   simp only[Nat.zero_add,List.nil_append]at KY⊢
   exact ig.out _ _ _ _ _ _ _ _ _ _ KY
 case TW=>
  go_simp
  have Nk:=wX.out.kF
  try simp only[World.size_alloc]at Nk
  refine hK.out _ _ (fun _=>gy.out _ Nk.b) (fun hS=> ?_)
  replace hS:=hS (by decide)
  clear hK K
  try simp only[Act.put,List.setIfInBounds_toArray,List.set_cons_zero,List.set_cons_succ]
  refine aj (rs:=[0,6]) (by kernel_rfl) (by simp) ?_
  refine ah.cons (o:= ?o75_0) ?QJ (fun K hK=> ?Uk) (ah.cons (o:= ?o75_1) ?QK (fun K hK=> ?Ul) ah.nil)
  case QJ=>simp only[List.getElem?_toArray,List.getElem?_cons_succ,List.getElem?_cons_zero];rfl
  case QK=>simp only[List.getElem?_toArray,List.getElem?_cons_succ,List.getElem?_cons_zero];rfl
  case Uk=>
   go_simp
   have Dq:=Nk.wM
   try simp only[World.size_alloc]at Dq
   refine hK.out _ _ (fun _=>gy.out _ Dq.b) (fun hS=> ?_)
   replace hS:=hS (by decide)
   clear hK K
   try simp only[Act.put,List.setIfInBounds_toArray,List.set_cons_zero,List.set_cons_succ]
   refine aj (rs:=[5,6]) (by kernel_rfl) (by simp) ?_
   refine ah.cons (o:= ?o78_0) ?QL (fun K hK=> ?Um) (ah.cons (o:= ?o78_1) ?QM (fun K hK=> ?Un) ah.nil)
   case QL=>simp only[List.getElem?_toArray,List.getElem?_cons_succ,List.getElem?_cons_zero];rfl
   case QM=>simp only[List.getElem?_toArray,List.getElem?_cons_succ,List.getElem?_cons_zero];rfl
   case Um=>
    refine aA (by rfl) (.tmp 3) (.tmp 7) 99 (by rfl) w.heap.size 98 iN _ 6 48 Tryz.underlying99 mG.out.1 mG.out.2.1 mG.out.2.2.1 mG.out.2.2.2 rfl (by omega) _ 0 [] (by rfl) Dq.o1 _ n1 _ _ (by rfl) (HN.out.below Dq.b (Nat.le_refl _)) AZ.out (by unfold maxLen;omega) (by omega) Dq.b.size ?_
    intro A1 c1 u1 hown hgr hat
    have Uo:=Dq.app1 hown hgr hat
    clear hown hgr hat
    refine hK.out _ _ (fun _=>gy.out _ Uo.b) (fun hS=> ?_)
    replace hS:=hS (by decide)
    clear hK K
    try simp only[Act.put,List.setIfInBounds_toArray,List.set_cons_zero,List.set_cons_succ]
    refine dh 6 (h:=fun K hK=> ?_)
    go_simp
    have GD:=Uo.nM
    try simp only[World.size_alloc]at GD
    refine hK.out _ _ (fun _=>gy.out _ GD.b) (fun hS=> ?_)
    replace hS:=hS (by decide)
    clear hK K
    try simp only[Act.put,List.setIfInBounds_toArray,List.set_cons_zero,List.set_cons_succ]
    refine aj (rs:=[11]) (by kernel_rfl) (by simp) ?_
    refine ah.cons (o:= ?o26) ?P7 (fun K hK=> ?_) ah.nil
    case P7=>simp only[List.getElem?_toArray,List.getElem?_cons_succ,List.getElem?_cons_zero];rfl
    refine aA (by rfl) (.tmp 9) (.tmp 13) 86 (by rfl) w.heap.size 39 iD _ 1 24 Tryz.underlying86 jf.out.1 jf.out.2.1 jf.out.2.2.1 jf.out.2.2.2 rfl (by omega) _ 0 [] (by rfl) GD.o2 _ n2 _ _ (by rfl) (HD.out.below GD.b (Nat.le_refl _)) HD1.out (by unfold maxLen;omega) (by omega) GD.b.size ?_
    intro A2 c2 u2 hown hgr hat
    have KZ:=GD.qE hown hgr hat
    clear hown hgr hat
    refine hK.out _ _ (fun _=>gy.out _ KZ.b) (fun hS=> ?_)
    replace hS:=hS (by decide)
    clear hK K
    try simp only[Act.put,List.setIfInBounds_toArray,List.set_cons_zero,List.set_cons_succ]
    refine aj (rs:=[17]) (by kernel_rfl) (by simp) ?_
    refine ah.cons (o:= ?o27) ?P8 (fun K hK=> ?_) ah.nil
    case P8=>simp only[List.getElem?_toArray,List.getElem?_cons_succ,List.getElem?_cons_zero];rfl
    refine aA (by rfl) (.tmp 15) (.tmp 19) 100 (by rfl) w.heap.size 131 iE _ 3 32 Tryz.underlying100 ji.out.1 ji.out.2.1 ji.out.2.2.1 ji.out.2.2.2 rfl (by omega) _ 0 [] (by rfl) KZ.o3 _ n3 _ _ (by rfl) (HE.out.below KZ.b (Nat.le_refl _)) wN.out (by unfold maxLen;omega) (by omega) KZ.b.size ?_
    intro A3 c3 u3 hown hgr hat
    have K3:=KZ.qF hown hgr hat
    clear hown hgr hat
    refine hK.out _ _ (fun _=>gy.out _ K3.b) (fun hS=> ?_)
    replace hS:=hS (by decide)
    clear hK K
    try simp only[Act.put,List.setIfInBounds_toArray,List.set_cons_zero,List.set_cons_succ]
    refine aC 18 (hS:=hS) (h:= ?_)
    refine dh 19 (h:=fun K hK=> ?_)
    go_simp
    refine hK.out _ _ (fun _=>gy.out _ (K3.b.trans ((wall _ _).mono K3.b.size))) (fun hS=> ?_)
    replace hS:=hS (by decide)
    clear hK K
    try simp only[Act.put,List.setIfInBounds_toArray,List.set_cons_zero,List.set_cons_succ]
    refine dh 20 (h:=fun K hK=> ?_)
    go_simp
    refine hK.out _ _ (fun h=>absurd rfl h) (fun hS=> ?_)
    clear hS hK K
    try simp only[Act.put,List.setIfInBounds_toArray,List.set_cons_zero,List.set_cons_succ]
    refine aG (by kernel_rfl) ?_ _
    refine NoPanic.normal ?_
    go_wp2_with fail
    go_ret
    simp only[Nat.zero_add,List.nil_append]at K3⊢
    exact ig.out _ _ _ _ _ _ _ _ _ _ K3
   case Un=>
    go_simp
    have GH:=Dq.nM
    try simp only[World.size_alloc]at GH
    refine hK.out _ _ (fun _=>gy.out _ GH.b) (fun hS=> ?_)
    replace hS:=hS (by decide)
    clear hK K
    try simp only[Act.put,List.setIfInBounds_toArray,List.set_cons_zero,List.set_cons_succ]
    refine aj (rs:=[5]) (by kernel_rfl) (by simp) ?_
    refine ah.cons (o:= ?o28) ?P9 (fun K hK=> ?_) ah.nil
    case P9=>simp only[List.getElem?_toArray,List.getElem?_cons_succ,List.getElem?_cons_zero];rfl
    refine aA (by rfl) (.tmp 3) (.tmp 7) 99 (by rfl) w.heap.size 98 iN _ 6 48 Tryz.underlying99 mG.out.1 mG.out.2.1 mG.out.2.2.1 mG.out.2.2.2 rfl (by omega) _ 0 [] (by rfl) GH.o1 _ n1 _ _ (by rfl) (HN.out.below GH.b (Nat.le_refl _)) AZ.out (by unfold maxLen;omega) (by omega) GH.b.size ?_
    intro A1 c1 u1 hown hgr hat
    have K4:=GH.app1 hown hgr hat
    clear hown hgr hat
    refine hK.out _ _ (fun _=>gy.out _ K4.b) (fun hS=> ?_)
    replace hS:=hS (by decide)
    clear hK K
    try simp only[Act.put,List.setIfInBounds_toArray,List.set_cons_zero,List.set_cons_succ]
    refine aj (rs:=[11]) (by kernel_rfl) (by simp) ?_
    refine ah.cons (o:= ?o29) ?P_ (fun K hK=> ?_) ah.nil
    case P_=>simp only[List.getElem?_toArray,List.getElem?_cons_succ,List.getElem?_cons_zero];rfl
    refine aA (by rfl) (.tmp 9) (.tmp 13) 86 (by rfl) w.heap.size 39 iD _ 1 24 Tryz.underlying86 jf.out.1 jf.out.2.1 jf.out.2.2.1 jf.out.2.2.2 rfl (by omega) _ 0 [] (by rfl) K4.o2 _ n2 _ _ (by rfl) (HD.out.below K4.b (Nat.le_refl _)) HD1.out (by unfold maxLen;omega) (by omega) K4.b.size ?_
    intro A2 c2 u2 hown hgr hat
    have K5:=K4.qE hown hgr hat
    clear hown hgr hat
    refine hK.out _ _ (fun _=>gy.out _ K5.b) (fun hS=> ?_)
    replace hS:=hS (by decide)
    clear hK K
    try simp only[Act.put,List.setIfInBounds_toArray,List.set_cons_zero,List.set_cons_succ]
    refine aj (rs:=[17]) (by kernel_rfl) (by simp) ?_
    refine ah.cons (o:= ?o30) ?Qa (fun K hK=> ?_) ah.nil
    case Qa=>simp only[List.getElem?_toArray,List.getElem?_cons_succ,List.getElem?_cons_zero];rfl
    refine aA (by rfl) (.tmp 15) (.tmp 19) 100 (by rfl) w.heap.size 131 iE _ 3 32 Tryz.underlying100 ji.out.1 ji.out.2.1 ji.out.2.2.1 ji.out.2.2.2 rfl (by omega) _ 0 [] (by rfl) K5.o3 _ n3 _ _ (by rfl) (HE.out.below K5.b (Nat.le_refl _)) wN.out (by unfold maxLen;omega) (by omega) K5.b.size ?_
    intro A3 c3 u3 hown hgr hat
    have K6:=K5.qF hown hgr hat
    clear hown hgr hat
    refine hK.out _ _ (fun _=>gy.out _ K6.b) (fun hS=> ?_)
    replace hS:=hS (by decide)
    clear hK K
    try simp only[Act.put,List.setIfInBounds_toArray,List.set_cons_zero,List.set_cons_succ]
    refine aC 18 (hS:=hS) (h:= ?_)
    refine dh 19 (h:=fun K hK=> ?_)
    go_simp
    refine hK.out _ _ (fun _=>gy.out _ (K6.b.trans ((wall _ _).mono K6.b.size))) (fun hS=> ?_)
    replace hS:=hS (by decide)
    clear hK K
    try simp only[Act.put,List.setIfInBounds_toArray,List.set_cons_zero,List.set_cons_succ]
    refine dh 20 (h:=fun K hK=> ?_)
    go_simp
    refine hK.out _ _ (fun h=>absurd rfl h) (fun hS=> ?_)
    clear hS hK K
    try simp only[Act.put,List.setIfInBounds_toArray,List.set_cons_zero,List.set_cons_succ]
    refine aG (by kernel_rfl) ?_ _
    refine NoPanic.normal ?_
    go_wp2_with fail
    go_ret
    simp only[Nat.zero_add,List.nil_append]at K6⊢
    exact ig.out _ _ _ _ _ _ _ _ _ _ K6
  case Ul=>
   go_simp
   have QN:=Nk.nM
   try simp only[World.size_alloc]at QN
   refine hK.out _ _ (fun _=>gy.out _ QN.b) (fun hS=> ?_)
   replace hS:=hS (by decide)
   clear hK K
   try simp only[Act.put,List.setIfInBounds_toArray,List.set_cons_zero,List.set_cons_succ]
   refine dh 0 (h:=fun K hK=> ?_)
   go_simp
   have GI:=QN.wM
   try simp only[World.size_alloc]at GI
   refine hK.out _ _ (fun _=>gy.out _ GI.b) (fun hS=> ?_)
   replace hS:=hS (by decide)
   clear hK K
   try simp only[Act.put,List.setIfInBounds_toArray,List.set_cons_zero,List.set_cons_succ]
   refine aj (rs:=[5]) (by kernel_rfl) (by simp) ?_
   refine ah.cons (o:= ?o31) ?Qb (fun K hK=> ?_) ah.nil
   case Qb=>simp only[List.getElem?_toArray,List.getElem?_cons_succ,List.getElem?_cons_zero];rfl
   refine aA (by rfl) (.tmp 3) (.tmp 7) 99 (by rfl) w.heap.size 98 iN _ 6 48 Tryz.underlying99 mG.out.1 mG.out.2.1 mG.out.2.2.1 mG.out.2.2.2 rfl (by omega) _ 0 [] (by rfl) GI.o1 _ n1 _ _ (by rfl) (HN.out.below GI.b (Nat.le_refl _)) AZ.out (by unfold maxLen;omega) (by omega) GI.b.size ?_
   intro A1 c1 u1 hown hgr hat
   have K7:=GI.app1 hown hgr hat
   clear hown hgr hat
   refine hK.out _ _ (fun _=>gy.out _ K7.b) (fun hS=> ?_)
   replace hS:=hS (by decide)
   clear hK K
   try simp only[Act.put,List.setIfInBounds_toArray,List.set_cons_zero,List.set_cons_succ]
   refine aj (rs:=[11]) (by kernel_rfl) (by simp) ?_
   refine ah.cons (o:= ?o32) ?Qc (fun K hK=> ?_) ah.nil
   case Qc=>simp only[List.getElem?_toArray,List.getElem?_cons_succ,List.getElem?_cons_zero];rfl
   refine aA (by rfl) (.tmp 9) (.tmp 13) 86 (by rfl) w.heap.size 39 iD _ 1 24 Tryz.underlying86 jf.out.1 jf.out.2.1 jf.out.2.2.1 jf.out.2.2.2 rfl (by omega) _ 0 [] (by rfl) K7.o2 _ n2 _ _ (by rfl) (HD.out.below K7.b (Nat.le_refl _)) HD1.out (by unfold maxLen;omega) (by omega) K7.b.size ?_
   intro A2 c2 u2 hown hgr hat
   have K8:=K7.qE hown hgr hat
   clear hown hgr hat
   refine hK.out _ _ (fun _=>gy.out _ K8.b) (fun hS=> ?_)
   replace hS:=hS (by decide)
   clear hK K
   try simp only[Act.put,List.setIfInBounds_toArray,List.set_cons_zero,List.set_cons_succ]
   refine aj (rs:=[17]) (by kernel_rfl) (by simp) ?_
   refine ah.cons (o:= ?o33) ?Qd (fun K hK=> ?_) ah.nil
   case Qd=>simp only[List.getElem?_toArray,List.getElem?_cons_succ,List.getElem?_cons_zero];rfl
   refine aA (by rfl) (.tmp 15) (.tmp 19) 100 (by rfl) w.heap.size 131 iE _ 3 32 Tryz.underlying100 ji.out.1 ji.out.2.1 ji.out.2.2.1 ji.out.2.2.2 rfl (by omega) _ 0 [] (by rfl) K8.o3 _ n3 _ _ (by rfl) (HE.out.below K8.b (Nat.le_refl _)) wN.out (by unfold maxLen;omega) (by omega) K8.b.size ?_
   intro A3 c3 u3 hown hgr hat
   have K9:=K8.qF hown hgr hat
   clear hown hgr hat
   refine hK.out _ _ (fun _=>gy.out _ K9.b) (fun hS=> ?_)
   replace hS:=hS (by decide)
   clear hK K
   try simp only[Act.put,List.setIfInBounds_toArray,List.set_cons_zero,List.set_cons_succ]
   refine aC 18 (hS:=hS) (h:= ?_)
   refine dh 19 (h:=fun K hK=> ?_)
   go_simp
   refine hK.out _ _ (fun _=>gy.out _ (K9.b.trans ((wall _ _).mono K9.b.size))) (fun hS=> ?_)
   replace hS:=hS (by decide)
   clear hK K
   try simp only[Act.put,List.setIfInBounds_toArray,List.set_cons_zero,List.set_cons_succ]
   refine dh 20 (h:=fun K hK=> ?_)
   go_simp
   refine hK.out _ _ (fun h=>absurd rfl h) (fun hS=> ?_)
   clear hS hK K
   try simp only[Act.put,List.setIfInBounds_toArray,List.set_cons_zero,List.set_cons_succ]
   refine aG (by kernel_rfl) ?_ _
   refine NoPanic.normal ?_
   go_wp2_with fail
   go_ret
   simp only[Nat.zero_add,List.nil_append]at K9⊢
   exact ig.out _ _ _ _ _ _ _ _ _ _ K9
end
end Go.Proofs.YtohpcppeajijnaaGreat
