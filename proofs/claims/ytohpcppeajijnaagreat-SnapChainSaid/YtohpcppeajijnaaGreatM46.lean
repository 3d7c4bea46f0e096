/- append in a drawn region, under a guard that says yes. SnapChain: the walk. -/
import Derived.Test.YtohpcppeajijnaaGreatM27
import Derived.Test.YtohpcppeajijnaaGreatM25
import Derived.Test.YtohpcppeajijnaaGreatM44
namespace Go.Proofs.YtohpcppeajijnaaGreat
open Go.ChangeShapes Go.WideShapes Go.ChangeAt Go.RowKit
set_option linter.unusedVariables false
set_option linter.unusedSimpArgs false
theorem nD {P:Program} {S:Nat→Prop} {ops:Array Oper} {o:Oper} {a:Act} {w:World} {K:Act→World→Prop} {Q:Exit→Act→World→Prop} {E:Prop} (hw:Region.wanted o (yielded ops a.tmps)=true) (s x:Operand) (t:TypeId)
  (ho:o.op= .call {callee:= .builtin .append,args:= #[s,x],argTypes:= #[t,t]})
  (base:Nat) (e:TypeId) (i:TypeInfo) (z:Value) (k bytes:Nat) (ht:P.underlying t=some (.slice e)) (hi:P.info? e=some i) (hz:i.zero=some z)
  (hsize:i.size=k) (hby:i.bytes=bytes) (hzs:z.cells.size=k) (hk:0<k) (v:Value) (n:Nat) (xs:List Value) (hs:a.eval s=v) (hown:w.ownsRow base e k v n xs)
  (A:Option Addr) (m c:Nat) (news:List Value) (hx:a.eval x= .slice A m c) (hr:ak S w A (m*k) news) (h1:∀u∈news,u.oneCell'=true) (h63:n+m≤maxLen) (hbytes:(n+m)*bytes≤140737488355328) (hbase:base≤w.heap.size)
  (h:∀A' c' w',w'.ownsRow base e k (.slice A' (n+m) c') (n+m) (xs++news)→Below base w w'→K (a.put o.dst (.slice A' (n+m) c')) w'):
  if Region.wanted o (yielded ops a.tmps)=true then Oper.wp P o a w K Q else E:=by
 rw[if_pos hw]
 obtain⟨A',c',w',hr,h2,h3,h4⟩:=iR (P:=P) base t o.type e i z k bytes ht hi hz hsize hby hzs hk v n xs hown A m c news hr h1 h63 hbytes hbase
 unfold Oper.wp execOp
 simp only[ho,resolve,invoke,builtin,Sem.run_bind,Sem.run_pure,Result.andThen_ok,List.map_toArray,List.map_cons,List.map_nil,hs,hx,hr]
 exact h A' c' w' h2 ⟨h3.os,h3.tape,h3.output,h3.size,fun b hb=>h3.block b (by omega) (fun e=>by have:=bC hown b e.symm;omega)⟩
end Go.Proofs.YtohpcppeajijnaaGreat
namespace Go.Proofs.YtohpcppeajijnaaGreat.snapChain
open Go.ChangeShapes Go.WideShapes Go.ChangeAt Go.RowKit
set_option linter.unusedVariables false
set_option linter.unusedSimpArgs false
structure Good (A:iC):Prop where
 ids:∀x∈A.l,x.id<A.next
 hash:∀x∈A.l,x.hash.length≤64
theorem Good.new:Good gP:=⟨fun x hx=>(by cases hx),fun x hx=>(by cases hx)⟩
theorem Good.take {A:iC} (h:Good A) (T:aI):Good (bW A T).2:=by
 unfold bW
 split
 ·exact h
 ·refine⟨fun x hx=> ?_,fun x hx=> ?_⟩
  ·rcases List.mem_append.1 (show x∈A.l++[_]from hx)with hx|hx
   ·have:=h.ids x hx;show x.id<A.next+1;omega
   ·rw[List.mem_singleton.1 hx];show A.next<A.next+1;omega
  ·rcases List.mem_append.1 (show x∈A.l++[_]from hx)with hx|hx
   ·exact h.hash x hx
   ·rw[List.mem_singleton.1 hx];show(iG _).length≤64;rw[oL];omega
theorem Good.forget {A A':iC} {id now er:Int} (h:Good A) (hf:iq A id now er A'):Good A':=by
 rcases hf with⟨_,rfl,_⟩|⟨k,x,hx,_,_,hf⟩
 ·exact h
 ·rcases hf with⟨_,_,rfl⟩|⟨_,_,rfl⟩
  ·exact h
  ·have hs:∀y∈(zA A k).l,y∈A.l:=fun y hy=>by
    rcases List.mem_append.1 (show y∈A.l.take k++A.l.drop (k+1)from hy)with hy|hy
    ·exact List.mem_of_mem_take hy
    ·exact List.mem_of_mem_drop hy
   exact⟨fun y hy=>h.ids y (hs y hy),fun y hy=>h.hash y (hs y hy)⟩
theorem Good.ask {q:pW} {T:aI} {A A':iC} (h:Good A) (hd:BG q T A A'):Good A':=by
 rcases hd with⟨_,rfl⟩|⟨_,er,hf⟩|⟨_,rfl⟩
 ·exact h.take T
 ·exact h.forget hf
 ·exact h
theorem BI {q:pW} {T:aI} {A A':iC} (hk:q.kind≠6) (hd:BG q T A A'):A'.last=A.last∧A'.next=A.next:=by
 rcases hd with⟨h,_⟩|⟨_,er,hf⟩|⟨_,rfl⟩
 ·exact absurd h hk
 ·exact⟨hf.next.2.1,hf.next.1⟩
 ·exact⟨rfl,rfl⟩
theorem DL {A:iC} (h:Good A) (x:dQ) (hx:x.id=A.next) (nx:Int) (ls:List UInt8):oZ ⟨A.l++[x],nx,ls⟩ A.next=some x:=by
 have h1:A.l.find? (fun y=>decide (y.id=A.next))=none:=List.find?_eq_none.2 fun y hy=>by
  have:=h.ids y hy
  simp
  omega
 show(A.l++[x]).find? _=some x
 rw[List.find?_append,h1,hx.symm]
 simp
def Held (W:World) (p s t x y k:Nat) (v:Value) (w:World):Prop:=∃o A T B la n lc,v= .slice la n lc∧n=A.last.length∧gY W o w p s t x y A T B T∧Good A∧1≤A.next∧A.next≤k+1∧B.next=1∧ak (Free o w) w la n (A.last.map bv)∧n≤lc
set_option maxRecDepth 100000 in
set_option maxHeartbeats 64000000 in
theorem walk {H:Type} {enc:TypeId×Value→H} (W:World) (base:Nat) (v0:Value) (d0:DataW H) (p0:List MemPlace) (o0:Value.okWide Tryz.prog W .any base 53 v0) (h0:DataW.Trod enc Tryz.prog W 0 (fun _=>true) true 53 v0 d0 p0) (l0:∀x∈p0,x.block<W.heap.size) (hsz:(DataW.weightsEach Tryz.prog [53] ([d0]:List (DataW H))).all (· ≤reachBytes)=true):
  Calls Tryz.prog 4 #[v0] W (OM W):=by
 obtain⟨a,len,cap,rfl,hlc,hA⟩:∃a len cap,v0= .slice a len cap∧len≤cap∧Lu W a len:=by
  obtain⟨a0,len,cap,rfl⟩:=okWide_slice Tryz.underlying53 o0
  obtain⟨fuel,hf⟩:=h0
  refine uh hf l0 fun n hn=> ?_
  have h1:=List.all_eq_true.1 hsz n (List.mem_append_left _ hn)
  simpa using h1
 have hlm:=hA.1
 unfold maxLen at hlm
 have HA:=Lib.hid hA
 clear o0 h0 l0 hsz hlc hA
 go_enter Tryz.func4,Tryz.ntmps4
 go_wp2_with fail
 (with_reducible refine(tH W).mono ?_)
 rintro e w1 ⟨p,s,t,x,y,o1,rfl,hS1⟩
 have HST:Hid (Held W p s t x y 0 (.slice none 0 0) w1):=⟨o1,gP,kr,gP,none,0,0,rfl,rfl,hS1,Good.new,by simp[gP],by simp[gP],rfl,ak.nil _ _ _,Nat.le_refl _⟩
 clear hS1
 go_wp2_with fail
 go_loopw [4,5] (fun v i wr=>∃k:Nat,i= .int .i64 k∧k≤40∧Held W p s t x y k v wr) (fun _ i _=>40-(intOf i).toNat)
 case atStart=>exact⟨0,rfl,by omega,HST.out⟩
 case round=>
  obtain⟨k,rfl,hk40,o,A,T,B,la,n,lc,rfl,hn,hW,hG,hn1,hnk,hB1,hrow,Ve⟩:=hrel
  have HW:=Lib.hid hW
  have HG:=Lib.hid hG
  have HN:=Lib.hid hn
  have gZ:=Lib.hid hrow
  have HB1:=Lib.hid hB1
  have XF:n≤64:=by rw[hn];exact hW.zT.last
  obtain⟨nx,hnx⟩:∃nx,nx=A.next:=⟨_,rfl⟩
  rw[←hnx]at hn1 hnk
  have qx:=Lib.hid hnx
  obtain⟨q0,q1,q2,q3⟩:=hW.cells
  clear hW hG hn hrow hB1 hnx
  by_cases hlt:k<len
  ·have hd1:decide (k<len)=true:=by simpa using hlt
   by_cases h40:k<40
   ·obtain⟨g,off,rfl,hgw,hAk⟩:=HA.out.2 (by omega)
    obtain⟨q,ba,bn,bc,hx⟩:=hAk k hlt
    have hbW:=HW.out.marks.below
    obtain⟨d0,d1,d2,d3,d4⟩:=hx.cells
    have c0:=(hbW.cell (p:=⟨g,off+k*5,none⟩) hgw).trans d0
    have c1:=(hbW.cell (p:=⟨g,off+k*5+1,none⟩) hgw).trans d1
    have c2:=(hbW.cell (p:=⟨g,off+k*5+2,none⟩) hgw).trans d2
    have c3:=(hbW.cell (p:=⟨g,off+k*5+3,none⟩) hgw).trans d3
    have c4:=(hbW.cell (p:=⟨g,off+k*5+4,none⟩) hgw).trans d4
    have hbr:ak (fun b=>b<W.heap.size) wr ba bn (q.b.map bv):=hx.row.below hbW (Nat.le_refl _)
    have i0:(0:Int)≤(k:Int):=by omega
    have i1:(k:Int)<(len:Int):=by omega
    have i2:(k:Int)<40:=by omega
    have hd2:decide ((k:Int)<40)=true:=by simpa using i2
    by_cases Rp:q.kind=6
    ·rw[Rp]at c0
     have mh:=Lib.hid Rp
     clear Rp hx hAk hbW d0 d1 d2 d3 d4 c1 c2 c3 c4 hbr
     have vN:=Lib.hid ((HW.out.grow (Below.refl _ _).drew).take (by rw[←qx.out];omega))
     obtain⟨fl,hfl⟩:∃fl:Bool,fl=decide (8≤A.l.length):=⟨_,rfl⟩
     have uo:=Lib.hid hfl
     clear hfl
     cases fl with
     |true=>
      have e1:bW A T=((0,4),A):=by unfold bW;rw[if_pos (of_decide_eq_true uo.out.symm)]
      rw[e1]at vN
      clear e1
      go_wp2_with fail
      refine wp_region_noPanic ?_
      refine aH (last:=13) (S:=(fun w'=>w'.cell? ⟨p,0,none⟩=some (ptr s)∧w'.cell? ⟨p,1,none⟩=some (ptr t))) (by kernel_rfl) ?_ (fun hS=> ?_)
      ·exact⟨q0,q1⟩
      refine aC 0 (hS:=hS) (h:= ?_)
      refine aC 1 (hS:=hS) (h:= ?_)
      refine aC 2 (hS:=hS) (h:= ?_)
      refine aC 3 (hS:=hS) (h:= ?_)
      refine aC 4 (hS:=hS) (h:= ?_)
      refine aC 5 (hS:=hS) (h:= ?_)
      refine aC 6 (hS:=hS) (h:= ?_)
      refine aC 7 (hS:=hS) (h:= ?_)
      refine dh 8 (h:=fun K hK=> ?_)
      go_simp
      (with_reducible refine vN.out.mono ?_)
      rintro e w2 ⟨rfl,o2,hs2,hW2⟩
      have HW2:=Lib.hid hW2
      have HS2:=Lib.hid (Step.behind HW.out.marks (Below.refl _ _).drew hs2)
      obtain⟨z0,z1,z2,z3⟩:=hW2.cells
      clear hs2 hW2
      go_wp2_with fail
      refine hK.out _ _ (fun _=>⟨z0,z1⟩) (fun hS=> ?_)
      replace hS:=hS (by decide)
      clear hK K
      try simp only[Act.put,List.setIfInBounds_toArray,List.set_cons_zero,List.set_cons_succ]
      refine aC 9 (hS:=hS) (h:= ?_)
      refine aC 10 (hS:=hS) (h:= ?_)
      refine aC 11 (hS:=hS) (h:= ?_)
      refine aC 12 (hS:=hS) (h:= ?_)
      refine dh 13 (h:=fun K hK=> ?_)
      go_simp
      refine hK.out _ _ (fun h=>absurd rfl h) (fun hS=> ?_)
      clear hS hK K
      try simp only[Act.put,List.setIfInBounds_toArray,List.set_cons_zero,List.set_cons_succ]
      refine aG (by kernel_rfl) ?_ _
      refine NoPanic.normal ?_
      go_wp2_with fail
      go_roundw
      case rel=>exact⟨k+1,by go_num,by omega,o2,A,T,B,la,n,lc,rfl,HN.out,HW2.out,HG.out,by rw[←qx.out];omega,by rw[←qx.out];omega,HB1.out,gZ.out.free I4.qI HS2.out,Ve⟩
      case measure=>simp[intOf];omega
     |false=>
      have hf8:¬8≤A.l.length:=of_decide_eq_false uo.out.symm
      obtain⟨sv,hsv⟩:∃sv,sv=fq (bM T):=⟨_,rfl⟩
      obtain⟨hh,CU⟩:∃hh,hh=iG (A.last++sv):=⟨_,rfl⟩
      obtain⟨x1,hx1⟩:∃x1:dQ,x1=⟨A.next,hh,bM T⟩:=⟨_,rfl⟩
      obtain⟨A',hA'⟩:∃A':iC,A'=⟨A.l++[x1],A.next+1,hh⟩:=⟨_,rfl⟩
      have e1:bW A T=((nx,0),A'):=by unfold bW;rw[if_neg hf8,hA',hx1,CU,hsv,qx.out]
      have hfind:oZ A' nx=some x1:=by rw[qx.out,hA'];exact DL HG.out x1 (by rw[hx1]) _ _
      have hG':Good A':=by
       have:=HG.out.take T
       rw[e1]at this
       exact this
      have Vf:x1.hash=hh:=by rw[hx1]
      have Vg:x1.t=bM T:=by rw[hx1]
      have Vh:A'.last=hh:=by rw[hA']
      have Vi:A'.next=nx+1:=by rw[hA',qx.out]
      have Ls:hh.length=32:=by rw[CU,oL]
      rw[e1]at vN
      have EM:=Lib.hid hfind
      have wV:=Lib.hid hG'
      have Hw:=Lib.hid (And.intro Vf Vg)
      have HA1:=Lib.hid (And.intro Vh Vi)
      have BQ:=Lib.hid CU
      have Hy:=Lib.hid Ls
      have CX:=Lib.hid hsv
      have hsl:sv.length≤6000000:=by rw[hsv];exact vT HW.out.BD.bM
      have LZ:=Lib.hid HW.out.BD.bM
      clear e1 hfind hG' Vf Vg Vh Vi CU Ls hx1 hA' hsv hf8 uo
      go_wp2_with fail
      refine wp_region_noPanic ?_
      refine aH (last:=13) (S:=(fun w'=>w'.cell? ⟨p,0,none⟩=some (ptr s)∧w'.cell? ⟨p,1,none⟩=some (ptr t))) (by kernel_rfl) ?_ (fun hS=> ?_)
      ·exact⟨q0,q1⟩
      refine aC 0 (hS:=hS) (h:= ?_)
      refine aC 1 (hS:=hS) (h:= ?_)
      refine aC 2 (hS:=hS) (h:= ?_)
      refine aC 3 (hS:=hS) (h:= ?_)
      refine aC 4 (hS:=hS) (h:= ?_)
      refine aC 5 (hS:=hS) (h:= ?_)
      refine aC 6 (hS:=hS) (h:= ?_)
      refine aC 7 (hS:=hS) (h:= ?_)
      refine dh 8 (h:=fun K hK=> ?_)
      go_simp
      (with_reducible refine vN.out.mono ?_)
      rintro e w2 ⟨rfl,o2,hs2,hW2⟩
      have HW2:=Lib.hid hW2
      have HS2:=Lib.hid (Step.behind HW.out.marks (Below.refl _ _).drew hs2)
      obtain⟨z0,z1,z2,z3⟩:=hW2.cells
      have U9:=Lib.hid (zU hW2.sn hW2.marks (by have:=hW2.zT.len;omega) nx)
      clear hs2 hW2
      go_wp2_with fail
      refine hK.out _ _ (fun _=>⟨z0,z1⟩) (fun hS=> ?_)
      replace hS:=hS (by decide)
      clear hK K
      try simp only[Act.put,List.setIfInBounds_toArray,List.set_cons_zero,List.set_cons_succ]
      refine aC 9 (hS:=hS) (h:= ?_)
      refine aC 10 (hS:=hS) (h:= ?_)
      refine aC 11 (hS:=hS) (h:= ?_)
      refine aC 12 (hS:=hS) (h:= ?_)
      refine dh 13 (h:=fun K hK=> ?_)
      go_simp
      refine hK.out _ _ (fun h=>absurd rfl h) (fun hS=> ?_)
      clear hS hK K
      try simp only[Act.put,List.setIfInBounds_toArray,List.set_cons_zero,List.set_cons_succ]
      refine aG (by kernel_rfl) ?_ _
      refine NoPanic.normal ?_
      go_wp2_with fail
      (with_reducible refine U9.out.mono ?_)
      rintro e w3 ⟨hb3,h3⟩
      rcases h3 with⟨h3,_⟩|⟨x3,r3,h3,rfl,IL,Zh⟩
      ·exact absurd (EM.out.symm.trans h3) (by simp)
      ·obtain rfl:x1=x3:=Option.some.inj (EM.out.symm.trans h3)
       have HB3:=Lib.hid hb3
       have HW3:=Lib.hid (HW2.out.grow hb3)
       have HT3:=Lib.hid IL
       obtain⟨y0,y1,y2,y3⟩:=HW3.out.cells
       have Va:=Lib.hid (wU HW3.out.sn (by have:=HW3.out.zT.len;omega) wV.out.hash nx)
       clear hb3 h3 IL Zh
       go_wp2_with fail
       (with_reducible refine Va.out.mono ?_)
       rintro e w4 ⟨hb4,h4⟩
       rcases h4 with⟨h4,_⟩|⟨x4,ha,hc,h4,rfl,hr4,hc4⟩
       ·exact absurd (EM.out.symm.trans h4) (by simp)
       ·obtain rfl:x1=x4:=Option.some.inj (EM.out.symm.trans h4)
        rw[Hw.out.1,Hy.out]at hr4 hc4⊢
        have kS:=Lib.hid hb4
        have n_:=Lib.hid (HW3.out.grow hb4)
        have HR4:Hid (ak (Free o2 w4) w4 ha 32 (hh.map bv)):=hr4.mono fun b hb=>⟨HW3.out.zero hb.1,hb.2⟩
        have BL:=Lib.hid (HT3.out.grow hb4)
        have HL4:=Lib.hid ((gZ.out.free I4.qI HS2.out).tC (HB3.out.trans (hb4.mono HB3.out.size)))
        have JE:Hid (∀u,Below w4.heap.size w4 u→Calls Tryz.prog 31 #[ptr r3] u (kC u sv)):=fun u hb=>by
         have hT:=BL.out.grow hb
         rw[Hw.out.2]at hT
         rw[CX.out]
         exact rE hT LZ.out
        have NW:Hid (∀u,Below w4.heap.size w4 u→(convert 39 9 (.slice ha 32 hc)).run Tryz.prog u= .ok (.string (strOf hh)) u):=fun u hb=>fQ (HR4.out.below hb (Nat.le_refl _))
        obtain⟨i8,DF⟩:∃i,Tryz.prog.info? 5=some i∧i.zero=some (.int .u8 0)∧i.size=1∧i.bytes=1:=info_parts (by kernel_rfl)
        have HI:=Lib.hid DF
        clear hb4 h4 hr4 DF
        go_wp2_with fail
        refine wp_region_noPanic ?_
        refine aH (last:=22) (S:=(fun w'=>(convert 39 9 (.slice ha 32 hc)).run Tryz.prog w'= .ok (.string (strOf hh)) w')) (by kernel_rfl) ?_ (fun hS=> ?_)
        ·exact NW.out _ (Below.refl _ _).drew
        refine aC 0 (hS:=hS) (h:= ?_)
        refine aC 1 (hS:=hS) (h:= ?_)
        refine aC 2 (hS:=hS) (h:= ?_)
        refine aC 3 (hS:=hS) (h:= ?_)
        refine aC 4 (hS:=hS) (h:= ?_)
        refine aC 5 (hS:=hS) (h:= ?_)
        refine aC 6 (hS:=hS) (h:= ?_)
        refine aC 7 (hS:=hS) (h:= ?_)
        refine aC 8 (hS:=hS) (h:= ?_)
        refine aC 9 (hS:=hS) (h:= ?_)
        refine aC 10 (hS:=hS) (h:= ?_)
        refine aC 11 (hS:=hS) (h:= ?_)
        refine aC 12 (hS:=hS) (h:= ?_)
        refine aC 14 (hS:=hS) (h:= ?_)
        refine aC 16 (hS:=hS) (h:= ?_)
        refine dh 13 (h:=fun K hK=> ?_)
        go_simp
        have lX:=Lib.hid ((Below.refl w4.heap.size w4).drew.alloc (Nat.le_refl _) (.cells #[] 5))
        refine hK.out _ _ (fun _=>NW.out _ lX.out) (fun hS=> ?_)
        replace hS:=hS (by decide)
        clear hK K
        try simp only[Act.put,List.setIfInBounds_toArray,List.set_cons_zero,List.set_cons_succ]
        refine aj (rs:=[15]) (by kernel_rfl) (by simp) ?_
        refine ah.cons (o:= ?o1) ?ho1 (fun K hK=> ?_) ah.nil
        case ho1=>simp only[List.getElem?_toArray,List.getElem?_cons_succ,List.getElem?_cons_zero];rfl
        refine nD (by rfl) (.tmp 82) (.tmp 83) 39 (by rfl) w4.heap.size 5 i8 _ 1 1 Tryz.underlying39 HI.out.1 HI.out.2.1 HI.out.2.2.1 HI.out.2.2.2 rfl (by omega) _ 0 [] (by rfl) (bZ (MapKept.heap_alloc w4.drew _).1 (Nat.le_refl _)) _ n _ (A.last.map bv) (by rfl) (by rw[Nat.mul_one];exact HL4.out.below lX.out (Nat.le_refl _)) (bU _) (by unfold maxLen;omega) (by omega) lX.out.size ?_
        intro A6 c6 w6 hown6 hb6
        simp only[Nat.zero_add,List.nil_append]at hown6⊢
        have M0:=Lib.hid hown6
        have yc:=Lib.hid (lX.out.trans hb6)
        clear hown6 hb6
        refine hK.out _ _ (fun _=>NW.out _ yc.out) (fun hS=> ?_)
        replace hS:=hS (by decide)
        clear hK K
        try simp only[Act.put,List.setIfInBounds_toArray,List.set_cons_zero,List.set_cons_succ]
        refine dh 17 (h:=fun K hK=> ?_)
        go_simp
        (with_reducible refine(JE.out _ yc.out).mono ?_)
        rintro e w7 ⟨a7,n7,c7,rfl,VT,Zi,zC⟩
        have VW:sv.length=n7:=by simpa using Zi.length
        have HL7:=Lib.hid VW
        have VR:=Lib.hid Zi
        have uQ:=Lib.hid (yc.out.trans (zC.mono yc.out.size))
        have Hz:=Lib.hid (own_below M0.out zC)
        have hn7b:n7≤6000000:=by omega
        clear Zi zC VW
        go_wp2_with fail
        refine hK.out _ _ (fun _=>NW.out _ uQ.out) (fun hS=> ?_)
        replace hS:=hS (by decide)
        clear hK K
        try simp only[Act.put,List.setIfInBounds_toArray,List.set_cons_zero,List.set_cons_succ]
        refine aj (rs:=[18]) (by kernel_rfl) (by simp) ?_
        refine ah.cons (o:= ?o2) ?ho2 (fun K hK=> ?_) ah.nil
        case ho2=>simp only[List.getElem?_toArray,List.getElem?_cons_succ,List.getElem?_cons_zero];rfl
        refine nD (by rfl) (.tmp 84) (.tmp 86) 39 (by rfl) w4.heap.size 5 i8 _ 1 1 Tryz.underlying39 HI.out.1 HI.out.2.1 HI.out.2.2.1 HI.out.2.2.2 rfl (by omega) _ n (A.last.map bv) (by rfl) Hz.out _ n7 _ (sv.map bv) (by rfl) (by rw[Nat.mul_one];exact VR.out) (bU _) (by unfold maxLen;omega) (by omega) uQ.out.size ?_
        intro A8 c8 w8 kJ uD
        have uw:=Lib.hid (uQ.out.trans uD)
        have PY:Hid (ak (fun b=>w4.heap.size≤b∧b<w8.heap.size) w8 A8 (n+n7) ((A.last++sv).map bv)):=by
         have h9:=(ak.ku kJ).2
         rw[←List.map_append]at h9
         exact h9
        clear kJ uD
        refine hK.out _ _ (fun _=>NW.out _ uw.out) (fun hS=> ?_)
        replace hS:=hS (by decide)
        clear hK K
        try simp only[Act.put,List.setIfInBounds_toArray,List.set_cons_zero,List.set_cons_succ]
        refine dh 19 (h:=fun K hK=> ?_)
        go_simp
        (with_reducible refine(Bu A8 (n+n7) c8 (A.last++sv) w8 PY.out (by omega)).mono ?_)
        rintro e w9 ⟨a9,c9,rfl,iK,uy⟩
        have Ea:=(ak.ku iK).2
        rw[←BQ.out]at Ea⊢
        rw[Hy.out]at Ea⊢
        have yg:=Lib.hid (uw.out.trans (uy.mono uw.out.size))
        have Zj:(convert 39 9 (.slice a9 32 c9)).run Tryz.prog w9= .ok (.string (strOf hh)) w9:=fQ Ea
        clear iK uy Ea
        go_wp2_with fail
        refine hK.out _ _ (fun _=>NW.out _ yg.out) (fun hS=> ?_)
        replace hS:=hS (by decide)
        clear hK K
        try simp only[Act.put,List.setIfInBounds_toArray,List.set_cons_zero,List.set_cons_succ]
        refine dh 20 (h:=fun K hK=> ?_)
        go_simp
        refine hK.out _ _ (fun _=>NW.out _ yg.out) (fun hS=> ?_)
        replace hS:=hS (by decide)
        clear hK K
        try simp only[Act.put,List.setIfInBounds_toArray,List.set_cons_zero,List.set_cons_succ]
        refine aC 21 (hS:=hS) (h:= ?_)
        refine dh 22 (h:=fun K hK=> ?_)
        go_simp
        refine hK.out _ _ (fun h=>absurd rfl h) (fun hS=> ?_)
        clear hS hK K
        try simp only[Act.put,List.setIfInBounds_toArray,List.set_cons_zero,List.set_cons_succ]
        refine aG (by kernel_rfl) ?_ _
        refine NoPanic.normal ?_
        clear Zj
        go_wp2_with fail
        go_roundw
        case rel=>
         refine⟨k+1,by go_num,by omega,o2,A',T,B,ha,32,hc,rfl,by rw[HA1.out.1];exact Hy.out.symm,n_.out.grow yg.out,wV.out,by rw[HA1.out.2];omega,by rw[HA1.out.2];omega,HB1.out,?_,hc4⟩
         rw[HA1.out.1]
         exact HR4.out.tC yg.out
        case measure=>simp[intOf];omega
    ·have hk6b:(q.kind==6)=false:=by simpa using Rp
     have hk6c:(q.kind !=6)=true:=by simpa using Rp
     have Vj:=Lib.hid (rR q ba bn bc HW.out (by rw[←qx.out];omega) (by rw[HB1.out];omega) hx.wp hx.wi hx.wk hx.wu hbr hx.cap hx.reach)
     have mh:=Lib.hid Rp
     unfold nW at Vj
     clear Rp hx hAk hbW d0 d1 d2 d3 d4 hbr
     go_wp2_with fail
     (with_reducible refine Vj.out.mono ?_)
     rintro e w2 ⟨bb,A2,B2,rfl,_,hA2,hB2,o2,hs2,hW2⟩
     obtain⟨l2,n2⟩:=BI mh.out hA2
     obtain⟨_,m2⟩:=BI mh.out hB2
     have HG2:=Lib.hid (HG.out.ask hA2)
     have HW2:=Lib.hid hW2
     have HS2:=Lib.hid hs2
     have HL2:=Lib.hid (And.intro l2 (And.intro n2 m2))
     clear hA2 hB2 hs2 hW2 l2 n2 m2 c0 c1 c2 c3 c4
     go_wp2_with fail
     go_roundw
     case rel=>
      refine⟨k+1,by go_num,by omega,o2,A2,_,B2,la,n,lc,rfl,by rw[HL2.out.1];exact HN.out,HW2.out,HG2.out,by rw[HL2.out.2.1,←qx.out];omega,by rw[HL2.out.2.1,←qx.out];omega,by rw[HL2.out.2.2];exact HB1.out,?_,Ve⟩
      rw[HL2.out.1]
      exact gZ.out.free I4.qI HS2.out
     case measure=>simp[intOf];omega
   ·have hd2:decide ((k:Int)<40)=false:=by simp;omega
    go_wp2_with fail
    (with_reducible refine(mo _).mono ?_)
    rintro e w9 ⟨rfl,uy⟩
    have yg:=Lib.hid uy
    clear uy
    go_wp2_with fail
    go_ret
    exact⟨rfl,HW.out.marks.below.trans (yg.out.mono HW.out.marks.below.size)⟩
  ·have hd1:decide (k<len)=false:=by simpa using hlt
   go_wp2_with fail
   (with_reducible refine(mo _).mono ?_)
   rintro e w9 ⟨rfl,uy⟩
   have yg:=Lib.hid uy
   clear uy
   go_wp2_with fail
   go_ret
   exact⟨rfl,HW.out.marks.below.trans (yg.out.mono HW.out.marks.below.size)⟩
end Go.Proofs.YtohpcppeajijnaaGreat.snapChain
