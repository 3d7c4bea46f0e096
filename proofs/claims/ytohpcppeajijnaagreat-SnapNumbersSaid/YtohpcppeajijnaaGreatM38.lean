/- Drop, again and again, plainly. The reference's tree: Copy under marks; Committed. permafrostref4: Byte, Short: some bytes, and behind them these (rows of one's own). permafrostref13: Live. The reference's snapshots (permafrostref13), in memory, under a mark. -/
import Derived.Test.YtohpcppeajijnaaGreatM13
import Derived.Test.YtohpcppeajijnaaGreatM20
import Derived.Test.YtohpcppeajijnaaGreatM37
import Derived.Test.YtohpcppeajijnaaGreatM14
import Derived.Test.YtohpcppeajijnaaGreatM17
import Derived.Test.YtohpcppeajijnaaGreatM24
import Derived.Test.YtohpcppeajijnaaGreatM30
import Derived.Test.YtohpcppeajijnaaGreatM36
namespace Go.Proofs.YtohpcppeajijnaaGreat
open Go.ChangeShapes Go.WideShapes Go.ChangeAt Go.RowKit
set_option linter.unusedVariables false
set_option linter.unusedSimpArgs false
theorem Dr {S:aI} {id j:Int} (h:j≠id):gu (eu S id).2 j=gu S j:=by
 unfold eu
 dsimp only
 split
 ·have e:aF j (rW S id)=(aF j S).map fun x=>{x with names:=x.names.filter fun e=> !decide (e.2=id)}:=by
   unfold rW
   rw[fF,if_neg h]
   exact z_ (fun x:bf=>{x with names:=x.names.filter fun e=> !decide (e.2=id)}) j S
  unfold gu
  rw[e]
  cases aF j S with
  |none=>rfl
  |some x=>rfl
 ·rfl
theorem GJ (S:aI) (id:Int):gu (eu S id).2 id≠0:=by
 unfold eu
 dsimp only
 split
 ·have e:aF id (rW S id)=none:=by
   unfold rW
   rw[fF,if_pos rfl]
  unfold gu
  rw[e]
  decide
 ·assumption
theorem wO:∀(L:List Int) (S:aI) (j:Int),(j∈L∨gu S j≠0)→gu (L.foldl (fun S id=>(eu S id).2) S) j≠0
 |[],S,j,h=>by
  rcases h with h|h
  ·cases h
  ·exact h
 |a::r,S,j,h=>by
  rw[List.foldl_cons]
  refine wO r _ j ?_
  by_cases hja:j=a
  ·subst hja
   exact .inr (GJ S j)
  ·rcases h with h|h
   ·rcases List.mem_cons.1 h with h|h
    ·exact absurd h hja
    ·exact .inl h
   ·exact .inr (by rw[Dr hja];exact h)
theorem zL {T:aI} {id:Int} {x:bf} (h:aF id T=some x) (hc:x.closed=true):gu T id≠0:=by
 unfold gu
 rw[h]
 simp only[hc,if_true]
 split<;>decide
theorem uH {T:aI} {k:Nat} {id:Int} (h:(iV T)[k]? =some id) (hc:gu T id≠0):dz T (k+1)=dz T k:=by
 rw[jP h]
 have h1:gu (dz T k) id≠0:=wO _ T id (.inr hc)
 unfold eu
 rw[if_neg h1]
theorem gM.remark {o o':Mark} {j k:Nat} {w:World} {r:Nat} {T:aI} (h:gM o j w r T) (h1:∀b,b<w.heap.size→o b=j→o' b=k) (h2:∀b,b<w.heap.size→o b=0→o' b=0):gM o' k w r T:=by
 obtain⟨F,hR,hr,hF⟩:=h
 exact⟨F,hR,h1 r (hR.low r hR.own) hr,fun b hb hbr=>h2 b (hR.low b hb) (hF b hb hbr)⟩
section
variable {W w:World} {o:Mark} {i r:Nat} {T:aI}
theorem Nl (h:gM o i w r T) (hM:Marks W o w) (hT:dR T) (j:Nat):
  Calls Tryz.prog 108 #[ptr r] w fun e w'=>∃q o',e= .returned (ptr q)∧Step o (fun k=>k=j) w o' w'∧gM o' j w' q T∧Below w.heap.size w w':=by
 obtain⟨F,hR,hr,hF⟩:=h
 have AB:=lG hT
 have hlen:=hT.len
 refine(Gl w hR hlen (by rw[List.length_map];exact hlen) (by omega)).mono ?_
 rintro e w' ⟨q,rfl,hq,hb,hR'⟩
 have Wx:q<w'.heap.size:=hR'.low q (by exact hR'.own)
 obtain⟨o',hs,h1,h2⟩:=jW hM j (fun b=>b=q) (fun b hb'=>by subst hb';exact⟨hq,Wx⟩) hb
 refine⟨q,o',rfl,hs,⟨_,hR',h1 q rfl,fun b hb' hbq=> ?_⟩,hb⟩
 rw[h2 b hbq]
 rcases hb' with hb'|hb'
 ·exact hF b hb'.1 hb'.2
 ·exact Decidable.byContradiction fun h0=>by have:=(hM.new b h0).2;omega
theorem gM.node (h:gM o i w r T) {k:Nat} {q:Int×bf} (hq:T[k]? =some q):∃b off c,w.cell? ⟨r,0,none⟩=some (.slice (some ⟨b,off,none⟩) T.length c)∧w.cell? ⟨b,off+k*6,none⟩=some (.int .i64 q.1)∧w.cell? ⟨b,off+k*6+1,none⟩=some (.int .i64 q.2.kind)∧w.cell? ⟨b,off+k*6+2,none⟩=some (.int .i64 q.2.links)∧w.cell? ⟨b,off+k*6+3,none⟩=some (.int .i64 q.2.b.length)∧w.cell? ⟨b,off+k*6+4,none⟩=some (.int .u64 q.2.aS)∧w.cell? ⟨b,off+k*6+5,none⟩=some (.bool q.2.closed):=by
 obtain⟨F,hR,hr,hF⟩:=h
 obtain⟨b,off,c,h1,-,-,-,h2⟩:=hR.node hq
 exact⟨b,off,c,h1,h2⟩
theorem gM.nodes (h:gM o i w r T):∃a c,w.cell? ⟨r,0,none⟩=some (.slice a T.length c):=by
 obtain⟨F,hR,hr,hF⟩:=h
 obtain⟨a,c,h1,-⟩:=hR.nodes
 exact⟨a,c,h1⟩
set_option maxRecDepth 100000 in
set_option maxHeartbeats 4000000 in
theorem wP (h:gM o i w r T) (hM:Marks W o w) (hT:dR T) (j:Nat) (hj:j≠0) (hij:i≠j) (hf:∀b,o b≠j):
  Calls Tryz.prog 45 #[ptr r] w fun e w'=>∃q o',e= .returned (ptr q)∧Step o (fun i=>i=j) w o' w'∧gM o' j w' q (bM T)∧Below w.heap.size w w':=by
 have OW:=Lib.hid (Nl h hM hT j)
 have HM:=Lib.hid hM
 have HT:=Lib.hid hT
 have HJ:=Lib.hid hj
 have HF:=Lib.hid hf
 have HIJ:=Lib.hid hij
 have XI:=Lib.hid h
 have Sr:=hT.len
 clear h hM hT hj hf hij
 go_enter Tryz.func45,Tryz.ntmps45
 go_wp2_with fail
 (with_reducible refine OW.out.mono ?_)
 rintro e w1 ⟨q,o1,rfl,hs1,hT1,hb1⟩
 have kR:=Lib.hid hs1
 have Ei:=Lib.hid (HM.out.step (fun e=>HJ.out e.symm) hs1)
 have HT1:=Lib.hid hT1
 have HR1:=Lib.hid (XI.out.step (fun e=>HJ.out e.symm) (fun e=>HIJ.out e) hs1)
 clear hs1 hT1 hb1
 obtain⟨tl,htl⟩:∃tl,tl=T.length:=⟨_,rfl⟩
 rw[←htl]at Sr
 have El:=Lib.hid htl
 clear htl
 go_wp2_with fail
 go_loopw [4] (fun iv wr=>∃(k:Nat) (o2:Mark),iv= .int .i64 k∧k≤tl∧Step o (fun i=>i=j) w o2 wr∧gM o2 j wr q (dz T k)∧gM o2 i wr r T) (fun iv _=>tl-(intOf iv).toNat)
 case atStart=>
  exact⟨0,o1,rfl,Nat.zero_le _,kR.out,by rw[mP];exact HT1.out,HR1.out⟩
 case round=>
  obtain⟨k,o2,rfl,hk,hs,Sv,xA⟩:=hrel
  have HS:=Lib.hid hs
  have vN:=Lib.hid Sv
  have BP:=Lib.hid xA
  obtain⟨a0,p0,hc0⟩:=xA.nodes
  rw[←El.out]at hc0
  clear hs Sv xA
  by_cases hlt:k<tl
  ·have hd:decide (k<tl)=true:=by simpa using hlt
   obtain⟨y,hy⟩:∃y,T[k]? =some y:=⟨T[k]'(by rw[←El.out];exact hlt),List.getElem?_eq_getElem _⟩
   obtain⟨b,off,c,hc0',d0,d1,d2,d3,d4,d5⟩:=BP.out.node hy
   rw[←El.out,hc0]at hc0'
   simp only[Option.some.injEq,Value.slice.injEq,true_and]at hc0'
   obtain⟨rfl,rfl⟩:=hc0'
   have hid:(iV T)[k]? =some y.1:=by unfold iV;rw[List.getElem?_map,hy];rfl
   have hyx:aF y.1 T=some y.2:=bL dD HT.out.sorted (List.mem_of_getElem? hy)
   have HDR:=Lib.hid (Nh vN.out (HM.out.step (fun e=>HJ.out e.symm) HS.out) (HT.out.dz k) y.1)
   have i0:(0:Int)≤(k:Int):=by omega
   have i1:(k:Int)<(tl:Int):=by omega
   have MQ:=Lib.hid hid
   have HYX:=Lib.hid hyx
   clear hid hy hyx d1 d2 d3 d4
   cases hcl:y.2.closed with
   |true=>
    rw[hcl]at d5
    have SE:=Lib.hid hcl
    clear hcl
    go_wp2_with fail
    go_roundw
    case rel=>
     refine⟨k+1,o2,by go_num,by omega,HS.out,?_,BP.out⟩
     rw[uH MQ.out (zL HYX.out SE.out)]
     exact vN.out
    case measure=>simp[intOf];omega
   |false=>
    rw[hcl]at d5
    clear hcl
    go_wp2_with fail
    (with_reducible refine HDR.out.mono ?_)
    rintro e w3 ⟨rfl,o3,hs3,IL⟩
    have Aj:=Lib.hid (HS.out.trans hs3)
    have HT3:=Lib.hid IL
    have HR3:=Lib.hid (BP.out.step (fun e=>HJ.out e.symm) (fun e=>HIJ.out e) hs3)
    clear hs3 IL HDR
    go_wp2_with fail
    go_roundw
    case rel=>
     refine⟨k+1,o3,by go_num,by omega,Aj.out,?_,HR3.out⟩
     rw[jP MQ.out]
     exact HT3.out
    case measure=>simp[intOf];omega
  ·have hd:decide (k<tl)=false:=by simp;omega
   have HKT:=Lib.hid (show tl=k by omega)
   clear hlt
   go_wp2_with fail
   go_ret
   have h9:=vN.out
   rw[←HKT.out,El.out,nI]at h9
   refine⟨q,o2,rfl,HS.out,h9,?_⟩
   exact HS.out.keep.iH (Nat.le_refl _) fun x _ hx=>HF.out x hx
theorem oV (h:gM o i w r T) (hM:Marks W o w) (hT:dR T):
  Calls Tryz.prog 45 #[ptr r] w fun e w'=>∃q,e= .returned (ptr q)∧gM o 0 w' q (bM T)∧Below w.heap.size w w':=by
 obtain⟨j,hj,hf⟩:=vM hM
 have hij:i≠j:=by
  obtain⟨F,hR,hr,hF⟩:=h
  exact fun e=>hf r (hr.trans e)
 refine(wP h hM hT j hj hij hf).mono ?_
 rintro e w' ⟨q,o',rfl,hs,hT',hb⟩
 refine⟨q,rfl,hT'.remark (fun b hb' he=> ?_) (fun b hb' he=> ?_),hb⟩
 ·by_cases hlt:b<w.heap.size
  ·rw[hs.old b hlt]at he;exact absurd he (hf b)
  ·exact Decidable.byContradiction fun h0=>by have:=(hM.new b h0).2;omega
 ·by_cases hlt:b<w.heap.size
  ·rw[hs.old b hlt]at he;exact he
  ·exact Decidable.byContradiction fun h0=>by have:=(hM.new b h0).2;omega
end
def dS (w:World) (bs:List UInt8) (e:Ending) (w':World):Prop:=
 ∃a c,e= .returned (.slice a bs.length c)∧w'.ownsRow w.heap.size 5 1 (.slice a bs.length c) bs.length (bs.map bv)∧Below w.heap.size w w'
theorem dN {w wa u:World} {own:Option Nat} (hg:wa.grownBy u own) (ho:∀b,own=some b→w.heap.size≤b) (ha:Below w.heap.size w wa):Below w.heap.size w u:=
 ⟨hg.os.trans ha.os,hg.tape.trans ha.tape,hg.output.trans ha.output,Nat.le_trans ha.size hg.size,fun b hb=>(hg.block b (Nat.lt_of_lt_of_le hb ha.size) (fun e=>by have:=ho b e.symm;omega)).trans (ha.block b hb)⟩
theorem pO (w:World):∀b,(Value.slice (some ⟨w.heap.size,0,none⟩) 0 0).ownBlock=some b→w.heap.size≤b:=by
 intro b hb
 simp[Value.ownBlock]at hb
 omega
theorem wQ {w u:World} {o:Obj} {v:Value} {n:Nat} {xs:List Value} (h:u.ownsRow w.heap.size 5 1 v n xs) (ha:v.ownBlock=(Value.slice (some ⟨w.heap.size,0,none⟩) 0 0).ownBlock∨v.ownBlock=some (w.alloc o).heap.size):∀b,v.ownBlock=some b→w.heap.size≤b:=by
 intro b hb
 rcases ha with h1|h1
 ·exact pO w b (h1▸hb)
 ·rw[h1]at hb
  simp at hb
  omega
theorem pQ {u:World} {B:Nat} {v:Value} {n:Nat} {xs:List Value} (h:u.ownsRow B 5 1 v n xs) (o:Obj):(u.alloc o).ownsRow B 5 1 v n xs:=
 bY h fun b _ hbw=>Below.heap_alloc u o b hbw
theorem Dt {w:World} {B:Nat} {e:TypeId} {v:Value} {n b:Nat} {xs:List Value} (h:w.ownsRow B e 1 v n xs) (hb:v.ownBlock=some b):B≤b:=by
 rcases h.2 with⟨h1,_⟩|⟨g,cap,cur,rfl,hg,_⟩
 ·subst h1
  simp[Value.ownBlock]at hb
 ·simp[Value.ownBlock]at hb
  omega
set_option maxHeartbeats 2000000 in
theorem nN {S:Nat→Prop} (a:Option Addr) (m c:Nat) (l:List UInt8) (n:Int) (w:World) (hr:ak S w a m (l.map bv)) (hm:m≤100000000) (hn0:0≤n) (hn:n≤1000000000):
  Calls Tryz.prog 139 #[.slice a m c, .int .i64 n] w (dS w (l++dU n 1)):=by
 obtain⟨i8,hi⟩:∃i,Tryz.prog.info? 5=some i∧i.zero=some (.int .u8 0)∧i.size=1∧i.bytes=1:=info_parts (by kernel_rfl)
 have HI:=Lib.hid hi
 have HR:=Lib.hid hr
 have hlm:l.length=m:=by simpa using hr.length
 clear hr hi
 go_enter Tryz.func139,Tryz.ntmps139
 have hbw:=jG hn0 0
 have e0:n/2^(8*((0:Nat):Int)).toNat=n:=by simp
 rw[e0]at hbw
 obtain⟨b0,hb0⟩:∃b0,b0=UInt8.ofNat ((n/2^(8*0)).toNat%256):=⟨_,rfl⟩
 rw[←hb0]at hbw
 have HB0:=Lib.hid hb0
 have Bn:(w.alloc (.cells #[] 5)).ownsRow w.heap.size 5 1 (.slice (some ⟨w.heap.size,0,none⟩) 0 0) 0 []:=World.ownsRow_lit w #[] 0 (Nat.le_refl _) (by decide) rfl
 have Uq:ak S (w.alloc (.cells #[] 5)) a m (l.map bv):=HR.out.below (wall w _) (Nat.le_refl _)
 have Np:=Lib.hid Bn
 have QO:=Lib.hid Uq
 have xC:=Lib.hid (wall w (.cells #[] 5))
 have JL:(w.alloc (.cells #[] 5)).heap.size=w.heap.size+1:=by simp
 clear Bn Uq hb0
 go_wp2_with (at_builtin;go_loud (first|(refine aO rfl _ _ 39 rfl w.heap.size 5 i8 _ 1 Tryz.underlying39 HI.out.1 HI.out.2.1 HI.out.2.2.1 HI.out.2.2.2 rfl _ 0 [] rfl Np.out a m c (l.map bv) rfl QO.out (bU l) (by unfold maxLen;omega) (by omega) (by omega) ?_;intro A1 c1 u1 hown1 hg1 _ nZ;simp only[Nat.zero_add,List.nil_append]at hown1 nZ;have wV:=Lib.hid (dN hg1 (pO w) xC.out);have hs1:=wV.out.size;have OD:=Lib.hid (fC (w:=u1) [bv b0] 5 (by unfold maxLen;simp));have Ol:=Lib.hid (pQ hown1 (.cells #[bv b0] 5));have Nb:=Lib.hid (wall u1 (.cells #[bv b0] 5));have hzB:(u1.alloc (.cells #[.int .u8 b0.toNat] 5)).heap.size=u1.heap.size+1:=(by simp);have Ur:=Lib.hid (wQ hown1 nZ);clear hown1 hg1 nZ;(try simp only[Nat.zero_add]))|(refine aO rfl _ _ 39 rfl w.heap.size 5 i8 _ 1 Tryz.underlying39 HI.out.1 HI.out.2.1 HI.out.2.2.1 HI.out.2.2.2 rfl _ m (l.map bv) rfl Ol.out _ 1 1 [bv b0] rfl OD.out (bU [b0]) (by unfold maxLen;omega) (by omega) (by omega) ?_;intro A2 c2 u2 hown2 hg2 _ zM;have HG2:=Lib.hid (dN hg2 Ur.out (wV.out.trans (Nb.out.mono wV.out.size)));have xq:=Lib.hid hown2;clear hown2 hg2 zM)))
 go_ret
 have e1:dU n 1=[b0]:=by rw[HB0.out];rfl
 rw[e1]
 refine⟨A2,c2,?_,?_,HG2.out⟩
 ·rw[List.length_append,hlm];rfl
 ·rw[List.length_append,hlm,List.map_append];exact xq.out
set_option maxHeartbeats 2000000 in
theorem gX {S:Nat→Prop} (a:Option Addr) (m c:Nat) (l:List UInt8) (n:Int) (w:World) (hr:ak S w a m (l.map bv)) (hm:m≤100000000) (hn0:0≤n) (hn:n≤1000000000):
  Calls Tryz.prog 90 #[.slice a m c, .int .i64 n] w (dS w (l++dU n 2)):=by
 obtain⟨i8,hi⟩:∃i,Tryz.prog.info? 5=some i∧i.zero=some (.int .u8 0)∧i.size=1∧i.bytes=1:=info_parts (by kernel_rfl)
 have HI:=Lib.hid hi
 have HR:=Lib.hid hr
 have hlm:l.length=m:=by simpa using hr.length
 clear hr hi
 go_enter Tryz.func90,Tryz.ntmps90
 have hbw:=jG hn0 0
 have e0:n/2^(8*((0:Nat):Int)).toNat=n:=by simp
 rw[e0]at hbw
 have hbx:=jG hn0 1
 obtain⟨b0,hb0⟩:∃b0,b0=UInt8.ofNat ((n/2^(8*0)).toNat%256):=⟨_,rfl⟩
 rw[←hb0]at hbw
 have HB0:=Lib.hid hb0
 obtain⟨b1,hb1⟩:∃b1,b1=UInt8.ofNat ((n/2^(8*1)).toNat%256):=⟨_,rfl⟩
 have hby:n/256%256=((UInt8.ofNat ((n/2^(8*1)).toNat%256)).toNat:Int):=by
  rw[←hbx]
  have e9:(2:Int)^(8*((1:Nat):Int)).toNat=256:=by decide
  rw[e9]
  simp[IntKind.wrap,IntKind.signed,IntKind.bits]
 rw[←hb1]at hby
 clear hbx
 have HB1:=Lib.hid hb1
 have Bn:(w.alloc (.cells #[] 5)).ownsRow w.heap.size 5 1 (.slice (some ⟨w.heap.size,0,none⟩) 0 0) 0 []:=World.ownsRow_lit w #[] 0 (Nat.le_refl _) (by decide) rfl
 have Uq:ak S (w.alloc (.cells #[] 5)) a m (l.map bv):=HR.out.below (wall w _) (Nat.le_refl _)
 have Np:=Lib.hid Bn
 have QO:=Lib.hid Uq
 have xC:=Lib.hid (wall w (.cells #[] 5))
 have JL:(w.alloc (.cells #[] 5)).heap.size=w.heap.size+1:=by simp
 clear Bn Uq hb0 hb1
 go_wp2_with (at_builtin;go_loud (first|(refine aO rfl _ _ 39 rfl w.heap.size 5 i8 _ 1 Tryz.underlying39 HI.out.1 HI.out.2.1 HI.out.2.2.1 HI.out.2.2.2 rfl _ 0 [] rfl Np.out a m c (l.map bv) rfl QO.out (bU l) (by unfold maxLen;omega) (by omega) (by omega) ?_;intro A1 c1 u1 hown1 hg1 _ nZ;simp only[Nat.zero_add,List.nil_append]at hown1 nZ;have wV:=Lib.hid (dN hg1 (pO w) xC.out);have hs1:=wV.out.size;have OD:=Lib.hid (fC (w:=u1) [bv b1,bv b0] 5 (by unfold maxLen;simp));have Ol:=Lib.hid (pQ hown1 (.cells #[bv b1,bv b0] 5));have Nb:=Lib.hid (wall u1 (.cells #[bv b1,bv b0] 5));have hzB:(u1.alloc (.cells #[.int .u8 b1.toNat, .int .u8 b0.toNat] 5)).heap.size=u1.heap.size+1:=(by simp);have Ur:=Lib.hid (wQ hown1 nZ);clear hown1 hg1 nZ;(try simp only[Nat.zero_add]))|(refine aO rfl _ _ 39 rfl w.heap.size 5 i8 _ 1 Tryz.underlying39 HI.out.1 HI.out.2.1 HI.out.2.2.1 HI.out.2.2.2 rfl _ m (l.map bv) rfl Ol.out _ 2 2 [bv b1,bv b0] rfl OD.out (bU [b1,b0]) (by unfold maxLen;omega) (by omega) (by omega) ?_;intro A2 c2 u2 hown2 hg2 _ zM;have HG2:=Lib.hid (dN hg2 Ur.out (wV.out.trans (Nb.out.mono wV.out.size)));have xq:=Lib.hid hown2;clear hown2 hg2 zM)))
 go_ret
 have e1:dU n 2=[b1,b0]:=by rw[HB0.out,HB1.out];rfl
 rw[e1]
 refine⟨A2,c2,?_,?_,HG2.out⟩
 ·rw[List.length_append,hlm];rfl
 ·rw[List.length_append,hlm,List.map_append];exact xq.out
set_option maxHeartbeats 2000000 in
theorem j_ {S S':Nat→Prop} (a:Option Addr) (m c:Nat) (l:List UInt8) (a':Option Addr) (m' c':Nat) (l':List UInt8) (w:World) (hr:ak S w a m (l.map bv)) (hr':ak S' w a' m' (l'.map bv)) (hm:m≤100000000) (hm':m'≤65535):
  Calls Tryz.prog 91 #[.slice a m c, .slice a' m' c'] w (dS w (l++(dU m' 2++l'))):=by
 obtain⟨i8,hi⟩:∃i,Tryz.prog.info? 5=some i∧i.zero=some (.int .u8 0)∧i.size=1∧i.bytes=1:=info_parts (by kernel_rfl)
 have HI:=Lib.hid hi
 have HS:=Lib.hid (gX a m c l (m':Int) w hr hm (by omega) (by omega))
 have HR:=Lib.hid hr'
 have hlm:l.length=m:=by simpa using hr.length
 have Yo:l'.length=m':=by simpa using hr'.length
 have hg:decide ((65535:Int)<(m':Int))=false:=by simp;omega
 have hg2:decide ((65535:Nat)<m')=false:=by simp;omega
 obtain⟨q,hq⟩:∃q,q=l++dU (m':Int) 2:=⟨_,rfl⟩
 have HQ:=Lib.hid hq
 have hql:q.length=m+2:=by rw[hq,List.length_append,hlm];rfl
 rw[←hq]at HS
 clear hr hi hr' hq
 go_enter Tryz.func91,Tryz.ntmps91
 go_wp2_with fail
 (with_reducible refine HS.out.mono ?_)
 rintro e w1 ⟨a1,c1,rfl,hown1,hb1⟩
 have mg:=Lib.hid hown1
 have HB1:=Lib.hid hb1
 have HR1:=Lib.hid (HR.out.below hb1 (Nat.le_refl _))
 have hs1:=hb1.size
 clear hown1 hb1
 obtain⟨N,hN⟩:∃N,N=q.length:=⟨_,rfl⟩
 have hN8:N≤100000002:=by omega
 have HQL:=Lib.hid hql
 clear hql
 rw[←hN]at mg⊢
 have HN:=Lib.hid hN
 clear hN
 have Yp:Hid (∀b,(Value.slice a1 N c1).ownBlock=some b→w.heap.size≤b):=fun b hb=>Dt mg.out hb
 go_wp2_with (at_builtin;go_loud (refine aO rfl _ _ 39 rfl w.heap.size 5 i8 _ 1 Tryz.underlying39 HI.out.1 HI.out.2.1 HI.out.2.2.1 HI.out.2.2.2 rfl _ N (q.map bv) rfl mg.out a' m' c' (l'.map bv) rfl HR1.out (bU l') (by unfold maxLen;omega) (by omega) (by omega) ?_;intro A2 c2 u2 hown2 Us _ zM;have HG2:=Lib.hid (dN Us Yp.out HB1.out);have xq:=Lib.hid hown2;clear hown2 Us zM))
 go_ret
 have e1:l++(dU (m':Int) 2++l')=q++l':=by rw[HQ.out,List.append_assoc]
 have e2:(q++l').length=N+m':=by rw[List.length_append,Yo,←HN.out]
 rw[e1]
 refine⟨A2,c2,?_,?_,HG2.out⟩
 ·rw[e2];rfl
 ·rw[e2,List.map_append];exact xq.out
theorem Du {S:Nat→Prop} (a:Option Addr) (m c:Nat) (l:List UInt8) (f:Bool) (w:World) (hr:ak S w a m (l.map bv)) (hm:m≤100000000):
  Calls Tryz.prog 140 #[.slice a m c, .bool f] w (dS w (l++rz f)):=by
 have H1:=Lib.hid (nN a m c l 1 w hr hm (by omega) (by omega))
 have H0:=Lib.hid (nN a m c l 0 w hr hm (by omega) (by omega))
 clear hr
 cases f with
 |true=>
  go_enter Tryz.func140,Tryz.ntmps140
  go_wp2_with fail
  (with_reducible refine H1.out.mono ?_)
  rintro e w1 ⟨a1,c1,rfl,hown1,hb1⟩
  go_wp2_with fail
  go_ret
  exact⟨a1,c1,(by rw[List.length_append];rfl),hown1,hb1⟩
 |false=>
  go_enter Tryz.func140,Tryz.ntmps140
  go_wp2_with fail
  (with_reducible refine H0.out.mono ?_)
  rintro e w1 ⟨a1,c1,rfl,hown1,hb1⟩
  go_wp2_with fail
  go_ret
  exact⟨a1,c1,(by rw[List.length_append];rfl),hown1,hb1⟩
set_option maxHeartbeats 4000000 in
theorem nO {S:Nat→Prop} (a:Option Addr) (m c:Nat) (l:List UInt8) (n:Int) (w:World) (hr:ak S w a m (l.map bv)) (hm:m≤100000000) (hn0:0≤n) (hn:n≤18446744073709551615):
  Calls Tryz.prog 141 #[.slice a m c, .int .u64 n] w (dS w (l++dU n 8)):=by
 obtain⟨i8,hi⟩:∃i,Tryz.prog.info? 5=some i∧i.zero=some (.int .u8 0)∧i.size=1∧i.bytes=1:=info_parts (by kernel_rfl)
 have HI:=Lib.hid hi
 have hlm:l.length=m:=by simpa using hr.length
 have Vq:=Lib.hid hlm
 have Np:=Lib.hid (show(w.alloc (.cells #[] 5)).ownsRow w.heap.size 5 1 (.slice (some ⟨w.heap.size,0,none⟩) 0 0) 0 []from World.ownsRow_lit w #[] 0 (Nat.le_refl _) (by decide) rfl)
 have QO:Hid (ak S (w.alloc (.cells #[] 5)) a m (l.map bv)):=hr.below (wall w _) (Nat.le_refl _)
 have xC:=Lib.hid (wall w (.cells #[] 5))
 have JL:(w.alloc (.cells #[] 5)).heap.size=w.heap.size+1:=by simp
 clear hr hi hlm
 go_enter Tryz.func141,Tryz.ntmps141
 go_wp2_with (at_builtin;go_loud (refine aO rfl _ _ 39 rfl w.heap.size 5 i8 _ 1 Tryz.underlying39 HI.out.1 HI.out.2.1 HI.out.2.2.1 HI.out.2.2.2 rfl _ 0 [] rfl Np.out a m c (l.map bv) rfl QO.out (bU l) (by unfold maxLen;omega) (by omega) (by omega) ?_;intro A1 c1 u1 hown1 hg1 _ nZ;simp only[Nat.zero_add,List.nil_append]at hown1 nZ;have wV:=Lib.hid (dN hg1 (pO w) xC.out);have mg:=Lib.hid hown1;clear hown1 hg1 nZ;(try simp only[Nat.zero_add])))
 go_loopw [5,6] (fun ov iv wr=>∃(k:Nat) (dn:List UInt8) (a1:Option Addr) (c1:Nat),k≤8∧iv= .int .i64 (8*(k:Int)-8)∧dn++dU n k=dU n 8∧dn.length+k=8∧ov= .slice a1 (m+dn.length) c1∧wr.ownsRow w.heap.size 5 1 (.slice a1 (m+dn.length) c1) (m+dn.length) ((l++dn).map bv)∧Below w.heap.size w wr) (fun _ iv _=>((intOf iv)+8).toNat)
 case atStart=>exact⟨8,[],A1,c1,by omega,rfl,rfl,rfl,rfl,by simpa using mg.out,wV.out⟩
 case round=>
  obtain⟨k,dn,a1,c1,hk,rfl,hdn,hdl,rfl,hown,hB⟩:=hrel
  have xZ:=Lib.hid hdn
  have HO:=Lib.hid hown
  have HB:=Lib.hid hB
  have VH:=hB.size
  clear hdn hown hB
  cases k with
  |zero=>
   have e0:8*((0:Nat):Int)-8= -8:=by omega
   rw[e0]
   have HD8:Hid (dn.length=8):=Lib.hid (by omega)
   clear hdl
   go_wp2_with fail
   go_ret
   have h9:dn++[]=dU n 8:=xZ.out
   rw[List.append_nil]at h9
   refine⟨a1,c1,?_,?_,HB.out⟩
   ·rw[←h9,List.length_append,Vq.out];rfl
   ·rw[←h9,List.length_append,Vq.out];exact HO.out
  |succ k=>
   have hk0:(0:Int)≤k:=by omega
   have e1:8*((k+1:Nat):Int)-8=8*(k:Int):=by omega
   rw[e1]
   have hge:decide ((0:Int)≤8*(k:Int))=true:=by simp;omega
   have hbw:n/2^(8*k)%256=((UInt8.ofNat ((n/2^(8*k)).toNat%256)).toNat:Int):=by
    rw[←jG hn0 k,show(8*(k:Int)).toNat=8*k by omega]
    simp[IntKind.wrap,IntKind.signed,IntKind.bits]
   obtain⟨b0,hb0⟩:∃b0,b0=UInt8.ofNat ((n/2^(8*k)).toNat%256):=⟨_,rfl⟩
   rw[←hb0]at hbw
   have HB0:=Lib.hid hb0
   obtain⟨N,hN⟩:∃N,N=m+dn.length:=⟨_,rfl⟩
   have Wm:N≤100000008:=by omega
   rw[←hN]at HO⊢
   have xV:=Lib.hid hN
   have Hu:=Lib.hid hdl
   have sI:Below wr.heap.size wr (wr.alloc (.cells #[bv b0] 5)):=wall wr _
   have HOW:=Lib.hid (pQ HO.out (.cells #[bv b0] 5))
   have Yp:Hid (∀b,(Value.slice a1 N c1).ownBlock=some b→w.heap.size≤b):=fun b hb=>Dt HO.out hb
   have Nb:=Lib.hid (HB.out.trans (sI.mono VH))
   clear hb0 hN hdl sI
   go_wp2_with (at_builtin;go_loud (refine aO rfl _ _ 39 rfl w.heap.size 5 i8 _ 1 Tryz.underlying39 HI.out.1 HI.out.2.1 HI.out.2.2.1 HI.out.2.2.2 rfl _ N ((l++dn).map bv) rfl HOW.out (some ⟨wr.heap.size,0,none⟩) 1 1 [bv b0] rfl (uN (bv b0) 5) (by simp[bv,Value.oneCell']) (by unfold maxLen;omega) (by omega) (by simp;omega) ?_;intro A2 c2 u2 hown2 hg2 _ zM;have HG2:=Lib.hid (dN hg2 Yp.out Nb.out);have xq:=Lib.hid hown2;clear hown2 hg2 zM))
   go_roundw
   case rel=>
    refine⟨k,dn++[b0],A2,c2,by omega,by go_num,?_,by have:=Hu.out;simp;omega,?_,?_,HG2.out⟩
    ·rw[List.append_assoc,←xZ.out,HB0.out]
     rfl
    ·rw[List.length_append,←Nat.add_assoc,←xV.out];rfl
    ·rw[List.length_append,←Nat.add_assoc,←xV.out,←List.append_assoc,List.map_append]
     exact xq.out
   case measure=>simp[intOf];omega
theorem Nq (w:World) (o1:Obj) (vs:List Value) (t:TypeId) (hm:vs.length≤maxLen):ak (fun x=>x=w.heap.size+1) ((w.alloc o1).alloc (.cells vs.toArray t)) (some ⟨w.heap.size+1,0,none⟩) vs.length vs:=
 gJ (show((w.alloc o1).alloc (.cells vs.toArray t)).heap[w.heap.size+1]? =some (.cells vs.toArray t (0,0))from(dK w o1 _).2) hm
section
variable {W w:World} {o:Mark} {i r:Nat} {T:aI}
def Ut (w:World) (T:aI) (now:Int) (e:Ending) (w':World):Prop:=∃a c,e= .returned (.slice a (fu T now).length c)∧Below w.heap.size w w'
set_option maxRecDepth 100000 in
set_option maxHeartbeats 4000000 in
theorem GK (h:gM o i w r T) (hT:dR T) (now:Int):Calls Tryz.prog 149 #[ptr r, .int .u64 now] w (Ut w T now):=by
 obtain⟨iI,hI⟩:∃i,Tryz.prog.info? 3=some i∧i.zero=some (.int .i64 0)∧i.size=1∧i.bytes=8:=info_parts zx
 have HI:=Lib.hid hI
 have HR:=Lib.hid h
 have Sr:=hT.len
 have hlow:r<w.heap.size:=by
  obtain⟨F,hR,-,-⟩:=h
  exact hR.low r hR.own
 obtain⟨tl,htl⟩:∃tl,tl=T.length:=⟨_,rfl⟩
 rw[←htl]at Sr
 have El:=Lib.hid htl
 clear htl h hT hI
 go_enter Tryz.func149,Tryz.ntmps149
 go_wp2_with fail
 go_loopw [5,6] (fun v iv wr=>∃(k n:Nat) (a:Option Addr) (c:Nat),iv= .int .i64 k∧k≤tl∧n=(fu (T.take k) now).length∧n≤k∧v= .slice a n c∧wr.ownsRow w.heap.size 3 1 v n ((fu (T.take k) now).map (Value.int .i64))∧Below w.heap.size w wr) (fun _ iv _=>tl-(intOf iv).toNat)
 case atStart=>exact⟨0,0,none,0,rfl,Nat.zero_le _,rfl,Nat.le_refl _,rfl,⟨rfl, .inl ⟨rfl,rfl⟩⟩,Below.refl _ _⟩
 case round=>
  obtain⟨k,n,a,c,rfl,hk,hn,hnk,rfl,hown,hb⟩:=hrel
  have HOWN:=Lib.hid hown
  have HB:=Lib.hid hb
  have HN:=Lib.hid hn
  have HR1:=Lib.hid (HR.out.grow hb)
  obtain⟨a0,p0,hc0⟩:=HR1.out.nodes
  rw[←El.out]at hc0
  clear hown hn
  by_cases hlt:k<tl
  ·have hd:decide (k<tl)=true:=by simpa using hlt
   obtain⟨y,hy⟩:∃y,T[k]? =some y:=⟨T[k]'(by rw[←El.out];exact hlt),List.getElem?_eq_getElem _⟩
   obtain⟨b,off,cc,hc0',d0,d1,d2,d3,d4,d5⟩:=HR1.out.node hy
   rw[←El.out,hc0]at hc0'
   simp only[Option.some.injEq,Value.slice.injEq,true_and]at hc0'
   obtain⟨rfl,rfl⟩:=hc0'
   have i0:(0:Int)≤(k:Int):=by omega
   have i1:(k:Int)<(tl:Int):=by omega
   have vN:=Lib.hid (vV (now:=now) hy)
   obtain⟨id,kind,links,size,aS,closed,he⟩:∃id kind links size aS closed,y.1=id∧y.2.kind=kind∧y.2.links=links∧(y.2.b.length:Int)=size∧y.2.aS=aS∧y.2.closed=closed:=⟨_,_,_,_,_,_,rfl,rfl,rfl,rfl,rfl,rfl⟩
   obtain⟨e1,e2,e3,e4,e5,e6⟩:=he
   rw[e1]at d0
   rw[e2]at d1
   rw[e3]at d2
   rw[e4]at d3
   rw[e5]at d4
   rw[e6]at d5
   have QS:Hid (nJ y.2 now=(decide (kind=1)&&closed&&decide (now<aS))):=by
    show nJ y.2 now=_
    unfold nJ
    rw[e2,e5,e6]
   have Oj:=Lib.hid e1
   clear hy e1 e2 e3 e4 e5 e6
   by_cases hlv:(decide (kind=1)&&closed&&decide (now<aS))=true
   ·simp only[Bool.and_eq_true,decide_eq_true_eq]at hlv
    obtain⟨⟨rfl,rfl⟩,Nr⟩:=hlv
    have hnd:decide (now<aS)=true:=by simpa using Nr
    have Ed:Hid (fu (T.take (k+1)) now=fu (T.take k) now++[id]):=by
     show fu (T.take (k+1)) now=_
     rw[vN.out,QS.out,Oj.out]
     simp[Nr]
    clear vN QS
    go_wp2_with (at_builtin;refine bS rfl _ _ 37 rfl w.heap.size 3 iI _ 1 8 Tryz.underlying37 HI.out.1 HI.out.2.1 HI.out.2.2.1 HI.out.2.2.2 rfl (by omega) (.slice a n c) n ((fu (T.take k) now).map (Value.int .i64)) rfl (bY (bY HOWN.out fun b _ h=>(wall wr _).block b h) fun b _ h=>(wall _ _).block b h) _ 1 1 [.int .i64 id] rfl (show ak _ _ _ (1*1) _ from Nq wr _ [.int .i64 id] 3 (by simp[maxLen])) (by simp[Value.oneCell']) (by unfold maxLen;omega) (by omega) (by have:=HB.out.size;simp;omega) ?_;intro A1 c1 w1 hown1 hb1;have mg:=Lib.hid hown1;have xW:=Lib.hid (((HB.out.trans ((wall wr _).mono HB.out.size)).trans ((wall _ _).mono (by have:=HB.out.size;simp;omega))).trans hb1);clear hown1 hb1)
    go_roundw
    case rel=>
     refine⟨k+1,n+1,A1,c1,by go_num,by omega,?_,by omega,rfl,?_,xW.out⟩
     ·rw[Ed.out,List.length_append,←HN.out]
      rfl
     ·rw[Ed.out,List.map_append]
      exact mg.out
    case measure=>simp[intOf];omega
   ·have hlf:(decide (kind=1)&&closed&&decide (now<aS))=false:=by simpa using hlv
    have Ed:Hid (fu (T.take (k+1)) now=fu (T.take k) now):=by
     show fu (T.take (k+1)) now=_
     rw[vN.out,QS.out,hlf]
     simp
    clear vN QS hlv
    have hfin:∀wx:World,Below w.heap.size w wx→wx.ownsRow w.heap.size 3 1 (.slice a n c) n ((fu (T.take k) now).map (Value.int .i64))→(∃(k' n':Nat) (a':Option Addr) (c':Nat),Value.int .i64 ((k:Int)+1)= .int .i64 k'∧k'≤tl∧n'=(fu (T.take k') now).length∧n'≤k'∧Value.slice a n c= .slice a' n' c'∧wx.ownsRow w.heap.size 3 1 (.slice a n c) n' ((fu (T.take k') now).map (Value.int .i64))∧Below w.heap.size w wx):=fun wx h1 h2=>⟨k+1,n,a,c,by go_num,by omega,by rw[Ed.out];exact HN.out,by omega,rfl,by rw[Ed.out];exact h2,h1⟩
    have ig:=Lib.hid hfin
    clear hfin
    by_cases hk1:kind=1
    ·subst hk1
     cases closed with
     |true=>
      have Nr:decide (now<aS)=false:=by simpa using hlf
      have hnow2:¬now<aS:=by simpa using Nr
      clear hlf
      go_wp2_with fail
      go_roundw
      case rel=>exact ig.out _ (HB.out.trans ((wall wr _).mono HB.out.size)) (bY HOWN.out fun b _ h=>(wall wr _).block b h)
      case measure=>simp[intOf];omega
     |false=>
      clear hlf
      go_wp2_with fail
      go_roundw
      case rel=>exact ig.out _ (HB.out.trans ((wall wr _).mono HB.out.size)) (bY HOWN.out fun b _ h=>(wall wr _).block b h)
      case measure=>simp[intOf];omega
    ·have hkd:(kind==1)=false:=by simpa using hk1
     have Yq:decide (kind=1)=false:=by simpa using hk1
     clear hlf
     go_wp2_with fail
     go_roundw
     case rel=>exact ig.out _ (HB.out.trans ((wall wr _).mono HB.out.size)) (bY HOWN.out fun b _ h=>(wall wr _).block b h)
     case measure=>simp[intOf];omega
  ·have hd:decide (k<tl)=false:=by simp;omega
   have HE:Hid (n=(fu T now).length):=by
    show n=_
    rw[HN.out,List.take_of_length_le (by rw[←El.out];omega)]
   clear hlt
   go_wp2_with fail
   go_ret
   have h9:=HE.out
   exact⟨a,c,by rw[←h9];rfl,HB.out⟩
end
def lK (o:Mark) (w:World) (vs:List Value) (x:dQ):Prop:=
 ∃a c q,vs=[.int .i64 x.id, .slice a x.hash.length c,ptr q]∧x.hash.length≤c∧ak (Free o w) w a x.hash.length (x.hash.map bv)∧gM o 0 w q x.t∧dR x.t
def bT (o:Mark) (w:World):List Value→List dQ→Prop
 |vs,[]=>vs=[]
 |vs,x::r=>∃v1 v2,vs=v1++v2∧lK o w v1 x∧bT o w v2 r
structure fM (o:Mark) (i:Nat) (w:World) (s:Nat) (S:iC):Prop where
 at_:∃la lc a c vals,w.heap[s]? =some (.cells #[.int .i64 S.next, .slice la S.last.length lc, .slice a S.l.length c] 160 (0,0))∧o s=i∧s<w.heap.size∧
  S.l.length≤c∧ak (Free o w) w a (S.l.length*3) vals∧bT o w vals S.l∧
  S.last.length≤lc∧ak (Free o w) w la S.last.length (S.last.map bv)
theorem ak.tC {o:Mark} {w w':World} {a:Option Addr} {n:Nat} {vs:List Value} (h:ak (Free o w) w a n vs) (hb:Below w.heap.size w w'):ak (Free o w') w' a n vs:=
 h.move hb.size fun b hb' hbw=>⟨⟨hb'.1,Nat.lt_of_lt_of_le hb'.2 hb.size⟩,hb.block b hbw⟩
theorem lK.step {o o':Mark} {I:Nat→Prop} {w w':World} {vs:List Value} {x:dQ} (h:lK o w vs x) (hi:¬I 0) (hs:Step o I w o' w'):lK o' w' vs x:=by
 obtain⟨a,c,q,h1,h2,h3,h4,h5⟩:=h
 exact⟨a,c,q,h1,h2,h3.free hi hs,h4.step hi hi hs,h5⟩
theorem bT.step {o o':Mark} {I:Nat→Prop} {w w':World} (hi:¬I 0) (hs:Step o I w o' w'):∀{vs:List Value} {l:List dQ},bT o w vs l→bT o' w' vs l
 |_,[],h=>h
 |_,x::r,⟨v1,v2,h1,h2,h3⟩=>⟨v1,v2,h1,h2.step hi hs,bT.step hi hs h3⟩
theorem lK.grow {o:Mark} {w w':World} {vs:List Value} {x:dQ} (h:lK o w vs x) (hb:Below w.heap.size w w'):lK o w' vs x:=by
 obtain⟨a,c,q,h1,h2,h3,h4,h5⟩:=h
 exact⟨a,c,q,h1,h2,h3.tC hb,h4.grow hb,h5⟩
theorem bT.grow {o:Mark} {w w':World} (hb:Below w.heap.size w w'):∀{vs:List Value} {l:List dQ},bT o w vs l→bT o w' vs l
 |_,[],h=>h
 |_,x::r,⟨v1,v2,h1,h2,h3⟩=>⟨v1,v2,h1,h2.grow hb,bT.grow hb h3⟩
theorem lK.len {o:Mark} {w:World} {vs:List Value} {x:dQ} (h:lK o w vs x):vs.length=3:=by
 obtain⟨a,c,q,h1,_⟩:=h
 rw[h1];rfl
theorem bT.len {o:Mark} {w:World}:∀{vs:List Value} {l:List dQ},bT o w vs l→vs.length=l.length*3
 |_,[],h=>by have h1:_=[]:=h;rw[h1];rfl
 |_,x::r,⟨v1,v2,h1,h2,h3⟩=>by
  rw[h1,List.length_append,h2.len,h3.len,List.length_cons]
  omega
theorem bT.append {o:Mark} {w:World}:∀{vs us:List Value} {l m:List dQ},bT o w vs l→bT o w us m→bT o w (vs++us) (l++m)
 |_,_,[],_,h,k=>by have h1:_=[]:=h;rw[h1];exact k
 |_,_,x::r,_,⟨v1,v2,h1,h2,h3⟩,k=>⟨v1,v2++_,by rw[h1,List.append_assoc],h2,h3.append k⟩
theorem bT.at_ {o:Mark} {w:World}:∀{vs:List Value} {l:List dQ} {k:Nat} {x:dQ},bT o w vs l→l[k]? =some x→∃a c q,vs[k*3]? =some (.int .i64 x.id)∧vs[k*3+1]? =some (.slice a x.hash.length c)∧vs[k*3+2]? =some (ptr q)∧x.hash.length≤c∧ak (Free o w) w a x.hash.length (x.hash.map bv)∧gM o 0 w q x.t∧dR x.t
 |_,[],k,x,_,hx=>by simp at hx
 |_,y::r,0,x,⟨v1,v2,h1,h2,h3⟩,hx=>by
  have hyx:y=x:=Option.some.inj hx
  subst hyx
  obtain⟨a,c,q,e1,e2,e3,e4,e5⟩:=h2
  subst e1 h1
  exact⟨a,c,q,rfl,rfl,rfl,e2,e3,e4,e5⟩
 |_,y::r,k+1,x,⟨v1,v2,h1,h2,h3⟩,hx=>by
  obtain⟨a,c,q,e1,e2,e3,e4⟩:=bT.at_ h3 (k:=k) (x:=x) (by simpa using hx)
  have hl:=h2.len
  subst h1
  refine⟨a,c,q,?_,?_,?_,e4⟩
  ·rw[List.getElem?_append_right (by omega),←e1];congr 1;omega
  ·rw[List.getElem?_append_right (by omega),←e2];congr 1;omega
  ·rw[List.getElem?_append_right (by omega),←e3];congr 1;omega
theorem bT.take {o:Mark} {w:World}:∀{vs:List Value} {l:List dQ} (k:Nat),bT o w vs l→bT o w (vs.take (k*3)) (l.take k)
 |_,[],k,h=>by have h1:_=[]:=h;rw[h1];simp;exact rfl
 |_,y::r,0,_=>by simp;exact rfl
 |_,y::r,k+1,⟨v1,v2,h1,h2,h3⟩=>by
  subst h1
  have hl:=h2.len
  refine⟨v1,v2.take (k*3),?_,h2,h3.take k⟩
  rw[List.take_append,List.take_of_length_le (by omega)]
  congr 2
  omega
theorem bT.drop {o:Mark} {w:World}:∀{vs:List Value} {l:List dQ} (k:Nat),bT o w vs l→bT o w (vs.drop (k*3)) (l.drop k)
 |_,[],k,h=>by have h1:_=[]:=h;rw[h1];simp;exact rfl
 |_,y::r,0,h=>by simpa using h
 |_,y::r,k+1,⟨v1,v2,h1,h2,h3⟩=>by
  subst h1
  have hl:=h2.len
  have h4:=h3.drop k
  rw[List.drop_append,List.drop_eq_nil_of_le (by omega)]
  have e:(k+1)*3-v1.length=k*3:=by omega
  rw[e]
  exact h4
theorem lK.one {o:Mark} {w:World} {vs:List Value} {x:dQ} (h:lK o w vs x):∀u∈vs,u.oneCell'=true:=by
 obtain⟨a,c,q,h1,_⟩:=h
 intro u hu
 rw[h1]at hu
 simp only[List.mem_cons,List.not_mem_nil,or_false]at hu
 rcases hu with rfl|rfl|rfl<;>rfl
theorem bT.one {o:Mark} {w:World}:∀{vs:List Value} {l:List dQ},bT o w vs l→∀u∈vs,u.oneCell'=true
 |_,[],h=>by have h1:_=[]:=h;rw[h1];intro u hu;cases hu
 |_,x::r,⟨v1,v2,h1,h2,h3⟩=>by
  intro u hu
  rw[h1]at hu
  rcases List.mem_append.1 hu with hu|hu
  ·exact h2.one u hu
  ·exact bT.one h3 u hu
theorem fM.step {o o':Mark} {I:Nat→Prop} {j:Nat} {w w':World} {s:Nat} {S:iC} (h:fM o j w s S) (hi:¬I 0) (hj:¬I j) (hs:Step o I w o' w'):fM o' j w' s S:=by
 obtain⟨la,lc,a,c,vals,h1,h2,h3,h4,h5,h6,h7,h8⟩:=h.at_
 exact⟨la,lc,a,c,vals,(hs.block h3 (by rw[h2];exact hj)).trans h1,(hs.old s h3).trans h2,Nat.lt_of_lt_of_le h3 hs.keep.size,h4,h5.free hi hs,h6.step hi hs,h7,h8.free hi hs⟩
section
variable {W w:World} {o:Mark} {i s:Nat} {S:iC}
theorem fM.grow (h:fM o i w s S) {w':World} (hM:Marks W o w) (hb:Below w.heap.size w w'):fM o i w' s S:=
 h.step (I:=fun _=>False) (fun h=>h) (fun h=>h) (Step.grow hM hb)
theorem fM.lt (h:fM o i w s S):s<w.heap.size:=by
 obtain⟨la,lc,a,c,vals,h1,h2,h3,_⟩:=h.at_
 exact h3
theorem Bo {w8:World} (hM:Marks W o w) (hos:o s=i) (hK:Keeps (fun b=>b=s) w w8):Step o (fun k=>k=i) w o w8:=
 ⟨fun _ _=>rfl,fun b hb hn=>by have:=(hM.new b hn).2;omega,hK.mono fun x _ hx=>by
  have hx':x=s:=hx
  rw[hx']
  exact hos⟩
theorem Bp {w8:World} (hM:Marks W o w) {a:Option Addr} {n:Nat} {vs:List Value} {B:Nat} (hB:w.heap.size≤B) (h:ak (fun x=>B≤x∧x<w8.heap.size) w8 a n vs):ak (Free o w8) w8 a n vs:=
 h.mono fun b hb=>⟨Decidable.byContradiction fun h0=>by have:=(hM.new b h0).2;omega,hb.2⟩
theorem Ns (hM:Marks W o w) (j:Nat):Calls Tryz.prog 97 #[] w fun e w'=>∃s o',e= .returned (ptr s)∧Step o (fun k=>k=j) w o' w'∧fM o' j w' s gP∧Below w.heap.size w w':=by
 have HM:=Lib.hid hM
 clear hM
 go_enter Tryz.func97,Tryz.ntmps97
 go_wp2
 go_ret
 obtain⟨o',hs,h1,h2⟩:=jW HM.out j (fun b=>b=w.heap.size) (w':=w.alloc (.cells #[.int .i64 1, .slice none 0 0, .slice none 0 0] 160)) (fun b hb=>by subst hb;simp) (wall w _)
 refine⟨w.heap.size,o',rfl,hs,⟨none,0,none,0,[],(MapKept.heap_alloc w _).1,h1 _ rfl,by simp,Nat.le_refl _,ak.nil _ _ _,rfl,Nat.le_refl _,ak.nil _ _ _⟩,wall w _⟩
end
end Go.Proofs.YtohpcppeajijnaaGreat
