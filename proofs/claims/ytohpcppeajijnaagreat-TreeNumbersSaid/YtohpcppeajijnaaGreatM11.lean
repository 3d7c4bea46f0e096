/- package codec: the writer. What holds of each tree holds of it behind each call: counts, and the parts of it. tree: look, place. tree: place. -/
import Derived.Test.YtohpcppeajijnaaGreatM03
import Derived.Test.YtohpcppeajijnaaGreatM04
import Derived.Test.YtohpcppeajijnaaGreatM10
import Derived.WalkLawsBesides
import Derived.Deep.CutBlock
import Derived.Deep.DeepCutAuto
import Derived.Test.YtohpcppeajijnaaGreatM08
namespace Go.Proofs.YtohpcppeajijnaaGreat
open Go.ChangeShapes Go.WideShapes Go.ChangeAt Go.RowKit
set_option linter.unusedVariables false
set_option linter.unusedSimpArgs false
def f_ (n:Int):Nat→List UInt8
 |0=>[]
 |s+1=>UInt8.ofNat ((n/2^(8*s)).toNat%256)::f_ n s
structure cK (B:Nat) (w:World) (x:Nat) (v:Value) (bs:List UInt8):Prop where
 head:w.heap[x]? =some (.cells #[v] 181 (0,0))
 own:w.ownsRow B 5 1 v bs.length (bs.map bv)
 low:B≤x
 apart:v.ownBlock≠some x
def iT (B:Nat) (w:World) (x:Nat) (v:Value) (bs:List UInt8) (v':Value) (w':World):Prop:=
 cK B w' x v' bs∧Keeps (fun b=>b=x∨v.ownBlock=some b) w w'∧∀b,v'.ownBlock=some b→v.ownBlock=some b∨w.heap.size≤b
def lI (B:Nat) (w:World) (x:Nat) (v:Value) (bs:List UInt8) (e:Ending) (w':World):Prop:=e= .returned (.tuple #[])∧∃v',iT B w x v bs v' w'
section
variable {B x:Nat} {w w1 w2:World} {v v1 v2:Value} {bs X8 WG:List UInt8}
theorem cK.lt (h:cK B w x v bs):x<w.heap.size:=(Array.getElem?_eq_some_iff.1 h.head).1
theorem cK.cell (h:cK B w x v bs):w.cell? ⟨x,0,none⟩=some v:=by simp[World.cell?,h.head]
theorem cK.frozen (h:cK B w x v bs):w.frozen? ⟨x,0,none⟩=false:=by simp[World.frozen?,h.head]
theorem cK.kept (h:cK B w x v bs) (hs:w.heap.size≤w1.heap.size) (hx:w1.heap[x]? =w.heap[x]?) (hv:∀b,v.ownBlock=some b→w1.heap[b]? =w.heap[b]?):cK B w1 x v bs:=
 ⟨hx.trans h.head,fK h.own fun b hb _=>hv b hb,h.low,h.apart⟩
theorem cK.below (h:cK B w x v bs) (hb:Below w.heap.size w w1):cK B w1 x v bs:=
 h.kept hb.size (hb.block x h.lt) fun b hb'=>hb.block b (nX h.own b hb')
theorem iT.refl (h:cK B w x v bs):iT B w x v bs v w:=⟨h,Keeps.refl _ _,fun b hb=> .inl hb⟩
theorem iT.trans (h:iT B w x v X8 v1 w1) (k:iT B w1 x v1 WG v2 w2):iT B w x v WG v2 w2:=by
 obtain⟨h1,h2,h3⟩:=h
 obtain⟨k1,k2,k3⟩:=k
 have hs:=h2.size
 refine⟨k1,h2.trans k2 fun b hb hb1=> ?_,fun b hb=> ?_⟩
 ·rcases hb1 with h4|h4
  ·exact .inl h4
  ·rcases h3 b h4 with h5|h5
   ·exact .inr h5
   ·omega
 ·rcases k3 b hb with h4|h4
  ·exact h3 b h4
  ·exact .inr (by omega)
theorem iT.below (h:iT B w x v bs v1 w1) (hb:Below w1.heap.size w1 w2):iT B w x v bs v1 w2:=by
 obtain⟨h1,h2,h3⟩:=h
 exact⟨h1.below hb,h2.trans (Keeps.below hb) (fun b hb' hf=>by have:=h2.size;omega),h3⟩
end
theorem Ck {B x:Nat} {wr wa u1:World} {v1 v2:Value} {bs bs':List UInt8} (h:cK B wr x v1 bs) (ha:Below wr.heap.size wr wa) (hown:u1.ownsRow B 5 1 v2 bs'.length (bs'.map bv)) (hg:wa.grownBy u1 v1.ownBlock) (hat:v2.ownBlock=v1.ownBlock∨v2.ownBlock=some wa.heap.size):iT B wr x v1 bs' v2 (u1.setCell ⟨x,0,none⟩ v2):=by
 have hx:=h.lt
 have hs1:=ha.size
 have hs2:=hg.size
 have hxb:u1.heap[x]? =some (.cells #[v1] 181 (0,0)):=(hg.block x (by omega) (fun e=>h.apart e.symm)).trans ((ha.block x hx).trans h.head)
 have hap:v2.ownBlock≠some x:=by
  rcases hat with h1|h1
  ·rw[h1];exact h.apart
  ·rw[h1]
   intro e
   simp only[Option.some.injEq]at e
   omega
 refine⟨⟨?_,fK hown fun b hb hbw=>bg u1 _ _ _ (fun e=>hap (by rw[hb,e])),h.low,hap⟩,⟨hg.os.trans ha.os,hg.tape.trans ha.tape,hg.output.trans ha.output,by rw[size_set];omega,fun b hb hn=> ?_⟩,fun b hb=> ?_⟩
 ·simp only[World.setCell,Array.getElem?_modify,hxb]
  simp
 ·have h1:b≠x:=fun e=>hn (.inl e)
  have h2:v1.ownBlock≠some b:=fun e=>hn (.inr e)
  exact(bg u1 _ _ _ h1).trans ((hg.block b (by omega) (fun e=>h2 e.symm)).trans (ha.block b hb))
 ·rcases hat with h1|h1
  ·exact .inl (h1▸hb)
  ·rw[h1]at hb
   cases hb
   exact .inr hs1
theorem kS {n:Int} (hn:0≤n) (k:Nat):IntKind.u8.wrap (n/2^(8*(k:Int)).toNat)=((UInt8.ofNat ((n/2^(8*k)).toNat%256)).toNat:Int):=by
 have e1:(8*(k:Int)).toNat=8*k:=by omega
 rw[e1]
 have h0:0≤n/2^(8*k):=Int.ediv_nonneg hn (Int.pow_nonneg (by decide))
 generalize n/2^(8*k)=y at h0
 have h1:(UInt8.ofNat (y.toNat%256)).toNat=y.toNat%256:=by simp
 rw[h1]
 simp only[IntKind.wrap,IntKind.bits,IntKind.signed]
 simp
 omega
set_option maxRecDepth 100000 in
set_option maxHeartbeats 4000000 in
theorem xL {B x:Nat} {w:World} {v:Value} {bs:List UInt8} (h:cK B w x v bs) (n:Int) (s:Nat) (hn:0≤n) (hn':n≤18446744073709551615) (hs:s≤8) (hl:bs.length≤100000000):
  Calls Tryz.prog 131 #[ptr x, .int .u64 n, .int .i64 s] w (lI B w x v (bs++f_ n s)):=by
 obtain⟨i8,hi⟩:∃i,Tryz.prog.info? 5=some i∧i.zero=some (.int .u8 0)∧i.size=1∧i.bytes=1:=info_parts (by kernel_rfl)
 have HI:=Lib.hid hi
 have HW:=Lib.hid h
 clear h hi
 go_enter Tryz.func131,Tryz.ntmps131
 go_wp2
 go_loopw [6] (fun kv wr=>∃(k:Nat) (dn:List UInt8) (v1:Value),k≤s∧kv= .int .i64 ((k:Int)-1)∧dn++f_ n k=f_ n s∧dn.length+k=s∧iT B w x v (bs++dn) v1 wr) (fun kv _=>((intOf kv)+1).toNat)
 case atStart=>exact⟨s,[],v,Nat.le_refl _,by go_num,rfl,by simp,by simpa using iT.refl HW.out⟩
 case round=>
  obtain⟨k,dn,v1,hk,rfl,hdn,hdl,hm⟩:=hrel
  have HM:=Lib.hid hm
  have c0:=hm.1.cell
  have f0:=hm.1.frozen
  clear hm
  cases k with
  |zero=>
   have xM:=Lib.hid hdn
   have e0:((0:Nat):Int)-1= -1:=by omega
   rw[e0]
   clear hdn
   go_wp2_with fail
   go_end0
   refine⟨rfl,v1,?_⟩
   have h9:=xM.out
   unfold f_ at h9
   rw[List.append_nil]at h9
   cases s with
   |zero=>
    have:dn=[]:=List.eq_nil_of_length_eq_zero (by omega)
    subst this
    exact HM.out
   |succ s=>
    rw[←show dn=f_ n (s+1)from by rw[h9];rfl]
    exact HM.out
  |succ k=>
   have hk0:(0:Int)≤k:=by omega
   have e1:((k+1:Nat):Int)-1=(k:Int):=by omega
   rw[e1]
   have e2:IntKind.i64.wrap (8*(k:Int))=8*(k:Int):=IntWalk.i64_in _ (by omega)
   have hge:decide ((0:Int)≤(k:Int))=true:=by simp
   have hbw:=kS hn k
   obtain⟨b0,hb0⟩:∃b0,b0=UInt8.ofNat ((n/2^(8*k)).toNat%256):=⟨_,rfl⟩
   rw[←hb0]at hbw
   have HB0:=Lib.hid hb0
   have xM:=Lib.hid hdn
   have jH:Hid (∀w',Below wr.heap.size wr w'→w'.cell? ⟨x,0,none⟩=some v1∧w'.frozen? ⟨x,0,none⟩=false):=fun w' hb=>⟨(HM.out.1.below hb).cell,(HM.out.1.below hb).frozen⟩
   obtain⟨N,hN⟩:∃N,N=(bs++dn).length:=⟨_,rfl⟩
   have Rh:N≤100000008:=by rw[hN,List.length_append];omega
   have HOW:Hid (wr.ownsRow B 5 1 v1 N ((bs++dn).map bv)):=by rw[hN];exact HM.out.1.own
   have zW:=Lib.hid hN
   have hBw:B≤wr.heap.size:=Nat.le_of_lt (Nat.lt_of_le_of_lt HM.out.1.low HM.out.1.lt)
   clear hb0 hdn hN
   go_wp2_with fail
   refine wp_region_noPanic ?_
   refine bW (last:=14) (S:=(fun w'=>w'.cell? ⟨x,0,none⟩=some v1∧w'.frozen? ⟨x,0,none⟩=false)) (by kernel_rfl) ?_ (fun hS=> ?_)
   ·exact jH.out _ (Below.refl _ _).drew
   refine aT 0 (hS:=hS) (h:= ?_)
   refine aT 1 (hS:=hS) (h:= ?_)
   refine aT 2 (hS:=hS) (h:= ?_)
   refine aT 3 (hS:=hS) (h:= ?_)
   refine aT 4 (hS:=hS) (h:= ?_)
   refine aT 5 (hS:=hS) (h:= ?_)
   refine aT 6 (hS:=hS) (h:= ?_)
   refine aT 7 (hS:=hS) (h:= ?_)
   refine aT 8 (hS:=hS) (h:= ?_)
   refine aT 9 (hS:=hS) (h:= ?_)
   refine jF 10 (h:=fun K hK=> ?_)
   go_simp
   have uI:Below wr.heap.size wr (wr.drew.alloc (.cells #[bv b0] 5)):=(Below.refl _ _).drew.alloc (Nat.le_refl _) _
   refine hK.out _ _ (fun _=>jH.out _ uI) (fun hS=> ?_)
   replace hS:=hS (by decide)
   clear hK K
   try simp only[Act.put,List.setIfInBounds_toArray,List.set_cons_zero,List.set_cons_succ]
   refine au (rs:=[11]) (by kernel_rfl) (by simp) ?_
   refine ah.cons (o:= ?o1) ?ho1 (fun K hK=> ?_) ah.nil
   case ho1=>simp only[List.getElem?_toArray,List.getElem?_cons_succ,List.getElem?_cons_zero];rfl
   refine tu (by rfl) (.tmp 17) (.tmp 23) 39 (by rfl) B 5 i8 _ 1 Tryz.underlying39 HI.out.1 HI.out.2.1 HI.out.2.2.1 HI.out.2.2.2 rfl v1 N ((bs++dn).map bv) (by rfl) (fK HOW.out fun b hb hbw=>uI.block b hbw) (some ⟨wr.heap.size,0,none⟩) 1 1 [bv b0] (by rfl) (tO (w:=wr.drew) (bv b0) 5) (by simp[bv,Value.oneCell']) (by unfold maxLen;omega) (by omega) (by simp;omega) ?_
   intro A1 c1 u1 hown1 hg1 _ qE
   have Jm:u1.heap[x]? =some (.cells #[v1] 181 (0,0)):=(hg1.block x (Nat.lt_of_lt_of_le HM.out.1.lt uI.size) (fun e=>HM.out.1.apart e.symm)).trans ((uI.block x HM.out.1.lt).trans HM.out.1.head)
   have hu:u1.cell? ⟨x,0,none⟩=some v1∧u1.frozen? ⟨x,0,none⟩=false:=⟨by simp[World.cell?,Jm],by simp[World.frozen?,Jm]⟩
   refine hK.out _ _ (fun _=>hu) (fun hS=> ?_)
   replace hS:=hS (by decide)
   clear hK K
   try simp only[Act.put,List.setIfInBounds_toArray,List.set_cons_zero,List.set_cons_succ]
   refine aT 12 (hS:=hS) (h:= ?_)
   refine aT 13 (hS:=hS) (h:= ?_)
   refine jF 14 (h:=fun K hK=> ?_)
   go_simp
   refine hK.out _ _ (fun h=>absurd rfl h) (fun hS=> ?_)
   clear hS hK K
   try simp only[Act.put,List.setIfInBounds_toArray,List.set_cons_zero,List.set_cons_succ]
   refine aV (by kernel_rfl) ?_ _
   refine NoPanic.normal ?_
   go_wp2
   go_roundw
   case rel=>
    refine⟨k,dn++[b0], .slice A1 (N+1) c1,by omega,by go_num,?_,by simp;omega,HM.out.trans (Ck HM.out.1 uI ?_ hg1 qE)⟩
    ·rw[List.append_assoc,←xM.out,HB0.out]
     rfl
    ·have h9:(bs++(dn++[b0])).length=N+1:=by rw[zW.out];simp;omega
     rw[h9]
     simpa using hown1
   case measure=>simp[intOf]
theorem dR:kr iC:=Ob
theorem jL {T:aH} (hs:aP iC T) {d:Int} {x:bF} (f:bF→bF) (hx:aj d T=some x) (k:Int):fZ (bf d f T) k+cn k x=fZ T k+cn k (f x):=by
 induction T with
 |nil=>cases hx
 |cons y r ih=>
  have hp:=hs.apart dR
  obtain⟨h1,h2⟩:=List.pairwise_cons.1 hp
  rw[fF]at hx
  by_cases hy:y.1=d
  ·rw[if_pos hy]at hx
   cases hx
   have hr:bf d f r=r:=by
    unfold bf
    conv=>rhs;rw[←List.map_id r]
    apply List.map_congr_left
    intro q hq
    have:=h1 q hq
    rw[if_neg (fun e=>this (hy.trans e.symm))]
    rfl
   have e:bf d f (y::r)=(y.1,f y.2)::r:=by
    have:bf d f (y::r)=(if y.1=d then(y.1,f y.2)else y)::bf d f r:=rfl
    rw[this,hr,if_pos hy]
   rw[e]
   simp[fZ]
   omega
  ·rw[if_neg hy]at hx
   have:=ih (List.pairwise_cons.1 hs).2 hx
   have e:bf d f (y::r)=y::bf d f r:=by
    have:bf d f (y::r)=(if y.1=d then(y.1,f y.2)else y)::bf d f r:=rfl
    rw[this,if_neg hy]
   rw[e]
   simp[fZ]at this⊢
   omega
theorem wT (x:Int×bF):∀(T:aH) (k:Int),fZ (h_ iC x T) k=fZ T k+cn k x.2
 |[],k=>by simp[h_,fZ]
 |y::r,k=>by
  unfold h_
  split
  ·simp[fZ];omega
  ·have:=wT x r k
   simp[fZ]at this⊢
   omega
theorem rR {T:aH} (hs:aP iC T) {d:Int} {x:bF} (hx:aj d T=some x) (k:Int):fZ (bH d T) k+cn k x=fZ T k:=by
 induction T with
 |nil=>cases hx
 |cons y r ih=>
  have hp:=hs.apart dR
  obtain⟨h1,h2⟩:=List.pairwise_cons.1 hp
  rw[fF]at hx
  by_cases hy:y.1=d
  ·rw[if_pos hy]at hx
   cases hx
   have hr:bH d r=r:=by
    unfold bH
    rw[List.filter_eq_self]
    intro q hq
    have:=h1 q hq
    simp only[Bool.not_eq_true',decide_eq_false_iff_not]
    exact fun e=>this (hy.trans e.symm)
   have e:bH d (y::r)=r:=by
    have:bH d (y::r)=if (!decide (y.1=d))=true then y::bH d r else bH d r:=by simp[bH,List.filter_cons]
    rw[this,hr];simp[hy]
   rw[e]
   simp[fZ]
   omega
  ·rw[if_neg hy]at hx
   have:=ih (List.pairwise_cons.1 hs).2 hx
   have e:bH d (y::r)=y::bH d r:=by
    have:bH d (y::r)=if (!decide (y.1=d))=true then y::bH d r else bH d r:=by simp[bH,List.filter_cons]
    rw[this];simp[hy]
   rw[e]
   simp[fZ]at this⊢
   omega
theorem KQ {T:aH} {k j:Int} {x:bF} (hx:aj j T=some x):cn k x≤fZ T k:=by
 have hm:=cu hx
 have:∀(l:aH),(j,x)∈l→cn k x≤(l.map fun q=>cn k q.2).sum:=by
  intro l
  induction l with
  |nil=>simp
  |cons y r ih=>
   intro h
   simp only[List.map_cons,List.sum_cons]
   rcases List.mem_cons.1 h with rfl|h
   ·exact Nat.le_add_right _ _
   ·have:=ih h;omega
 exact this T hm
theorem tT {T:aH} {k:Int} (h:fZ T k=0) {j:Int} {x:bF} (hx:aj j T=some x):∀e∈x.names,e.2≠k:=by
 have h1:cn k x=0:=by have:=KQ (k:=k) hx;omega
 unfold cn at h1
 rw[List.countP_eq_zero]at h1
 intro e he
 have:=h1 e he
 simpa using this
theorem tF.bf {T:aH} (h:tF T) {k:Int} {x:bF} {f:bF→bF} (hx:aj k T=some x) (h1:Ci (f x)) (hk:(f x).kind=x.kind) (hn:∀e∈(f x).names,(aj e.2 T).isSome=true∧e.2≠0):tF (Go.Proofs.YtohpcppeajijnaaGreat.bf k f T):=by
 have hget:∀j y,aj j (Go.Proofs.YtohpcppeajijnaaGreat.bf k f T)=some y→(j=k∧y=f x)∨(j≠k∧aj j T=some y):=fun j y hy=>by
  rw[aS]at hy
  by_cases hj:j=k
  ·subst hj
   rw[if_pos rfl,hx]at hy
   simp only[Option.map_some,Option.some.injEq]at hy
   exact .inl ⟨rfl,hy.symm⟩
  ·rw[if_neg hj]at hy;exact .inr ⟨hj,hy⟩
 have hsome:∀j,(aj j T).isSome=true→(aj j (Go.Proofs.YtohpcppeajijnaaGreat.bf k f T)).isSome=true:=fun j hj=>by
  rw[aS];split<;>simp[hj]
 refine⟨jk k f h.sorted,?_,fun j y hy=> ?_,fun j y hy e he=> ?_,by rw[fU];exact h.len,fun j y hy=> ?_⟩
 ·have hr:=h.root
  unfold bZ at hr⊢
  rw[aS]
  by_cases h0:(0:Int)=k
  ·subst h0
   rw[if_pos rfl,hx]
   rw[hx]at hr
   exact hk.trans hr
  ·rw[if_neg h0];exact hr
 ·rcases hget j y hy with⟨rfl,rfl⟩|⟨_,hy⟩
  ·exact h1
  ·exact h.each j y hy
 ·rcases hget j y hy with⟨rfl,rfl⟩|⟨_,hy⟩
  ·exact⟨hsome _ (hn e he).1,(hn e he).2⟩
  ·exact⟨hsome _ (h.leads j y hy e he).1,(h.leads j y hy e he).2⟩
 ·rcases hget j y hy with⟨rfl,rfl⟩|⟨_,hy⟩
  ·exact h.ids j x hx
  ·exact h.ids j y hy
theorem dA.bf {T:aH} (h:dA T) {k:Int} {x:bF} {f:bF→bF} (hx:aj k T=some x) (h1:Ci (f x)) (hk:(f x).kind=x.kind) (hn:∀e∈(f x).names,(aj e.2 T).isSome=true∧e.2≠0)
  (hc:∀j y,aj j (Go.Proofs.YtohpcppeajijnaaGreat.bf k f T)=some y→j≠0→(fZ (Go.Proofs.YtohpcppeajijnaaGreat.bf k f T) j:Int)=y.links):dA (Go.Proofs.YtohpcppeajijnaaGreat.bf k f T):=⟨h.totF.bf hx h1 hk hn,hc⟩
theorem dA.rT {T:aH} (h:dA T) {k:Int} {x:bF} {f:bF→bF} (hx:aj k T=some x) (h1:Ci (f x)) (hk:(f x).kind=x.kind) (hn:(f x).names=x.names) (hl:(f x).links=x.links):dA (Go.Proofs.YtohpcppeajijnaaGreat.bf k f T):=by
 refine h.bf hx h1 hk (by rw[hn];exact h.leads k x hx) fun j y hy hj=> ?_
 have hcn:cn j (f x)=cn j x:=by unfold cn;rw[hn]
 have:=jL h.sorted f hx j
 rw[hcn]at this
 have e:fZ (Go.Proofs.YtohpcppeajijnaaGreat.bf k f T) j=fZ T j:=by omega
 rw[e]
 rw[aS]at hy
 by_cases hjk:j=k
 ·subst hjk
  rw[if_pos rfl,hx]at hy
  simp only[Option.map_some,Option.some.injEq]at hy
  rw[←hy,hl]
  exact h.counts j x hx hj
 ·rw[if_neg hjk]at hy
  exact h.counts j y hy hj
theorem FE:∀(m:Nat) (T:aH),aP iC T→(∀i:Nat,1≤i→i≤m→(aj (i:Int) T).isSome=true)→m≤T.length
 |0,_,_,_=>Nat.zero_le _
 |m+1,T,hs,h=>by
  obtain⟨x,hx⟩:=Option.isSome_iff_exists.1 (h (m+1) (by omega) (by omega))
  have h1:=nZ dR hs hx
  have h2:=FE m (bH ((m+1:Nat):Int) T) (hs.bH _) (fun i hi him=>by
   rw[eD,if_neg (by omega)]
   exact h i hi (by omega))
  omega
theorem Ai {T:aH} (hs:aP iC T):∃f:Nat,qx T=f∧1≤f∧f≤T.length+1∧aj (f:Int) T=none∧∀i:Nat,1≤i→i<f→(aj (i:Int) T).isSome=true:=by
 unfold qx
 cases hf:(((List.range (T.length+1)).map fun n:Nat=>(n:Int)+1).find? fun n=>(aj n T).isNone)with
 |none=>
  exfalso
  have h1:=List.find?_eq_none.1 hf
  have:=FE (T.length+1) T hs (fun i hi him=>by
   have:=h1 (i:Int) (List.mem_map.2 ⟨i-1,by simp;omega,by omega⟩)
   cases hq:aj (i:Int) T with
   |none=>rw[hq]at this;simp at this
   |some v=>rfl)
  omega
 |some n=>
  rw[List.find?_eq_some_iff_append]at hf
  obtain⟨hn,xs,ys,hab,hpre⟩:=hf
  have hl:(xs++n::ys).length=T.length+1:=by rw[←hab];simp
  have hidx:∀i (hi:i<xs.length+1),(xs++n::ys)[i]? =some ((i:Int)+1):=fun i hi=>by
   rw[←hab]
   simp only[List.length_append,List.length_cons]at hl
   simp[List.getElem?_range (show i<T.length+1 by omega)]
  have hne:n=(xs.length:Int)+1:=by
   have:=hidx xs.length (by omega)
   simpa using this
  simp only[List.length_append,List.length_cons]at hl
  refine⟨xs.length+1,by simp[hne],by omega,by omega,?_,fun i hi hif=> ?_⟩
  ·have:((xs.length+1:Nat):Int)=n:=by omega
   rw[this]
   simpa using hn
  ·have h2:=hidx (i-1) (by omega)
   rw[List.getElem?_append_left (by omega)]at h2
   have h3:=hpre _ (List.mem_of_getElem? h2)
   have e:((i-1:Nat):Int)+1=i:=by omega
   rw[e]at h3
   cases hq:aj (i:Int) T with
   |none=>rw[hq]at h3;simp at h3
   |some v=>rfl
theorem dA.free {T:aH} (h:dA T):∃f:Nat,qx T=f∧1≤f∧f≤T.length+1∧aj (f:Int) T=none∧∀i:Nat,1≤i→i<f→(aj (i:Int) T).isSome=true:=Ai h.sorted
theorem sM {α:Type} {l:List (Int×α)} {k:Int} (v:α) (h:aj k l=none):(bY iC k v l).length=l.length+1:=by
 unfold bY
 rw[sK,jJ h]
theorem Aj {α:Type} (t:α→Int) (m:Nat):∀(ks:List Int) (E:List α),(∀e∈E,t e∈ks)→(∀k∈ks,E.countP (fun e=>decide (t e=k))≤m)→E.length≤m*ks.length
 |[],E,h,_=>by
  cases E with
  |nil=>simp
  |cons e r=>have:=h e (by simp);simp at this
 |k::ks,E,h,hc=>by
  have h1:=Aj t m ks (E.filter fun e=> !decide (t e=k)) (fun e he=>by
   obtain⟨h1,h2⟩:=List.mem_filter.1 he
   rcases List.mem_cons.1 (h e h1)with h3|h3
   ·simp[h3]at h2
   ·exact h3) (fun j hj=>by
    rw[List.countP_filter]
    refine Nat.le_trans (List.countP_mono_left fun e _ he=> ?_) (hc j (by simp[hj]))
    simp at he⊢
    exact he.1)
  have h2:=hc k (by simp)
  have h3:E.length=E.countP (fun e=>decide (t e=k))+(E.filter fun e=> !decide (t e=k)).length:=by
   rw[←List.countP_eq_length_filter]
   exact(List.length_eq_countP_add_countP (fun e=>decide (t e=k))).trans (by
    have:List.countP (fun a=>decide (¬decide (t a=k)=true)) E=List.countP (fun e=> !decide (t e=k)) E:=List.countP_congr (fun e _=>by simp)
    rw[this])
  rw[List.length_cons,Nat.mul_succ]
  omega
theorem dA.few {T:aH} (h:dA T) {k:Int} {x:bF} (hx:aj k T=some x):x.names.length≤4096:=by
 have h1:=Aj (fun e:Nm×Int=>e.2) 64 (T.map (·.1)) x.names (fun e he=>by
  obtain⟨y,hy⟩:=Option.isSome_iff_exists.1 (h.leads k x hx e he).1
  exact List.mem_map.2 ⟨_,cu hy,rfl⟩) (fun j hj=>by
   by_cases h0:j=0
   ·subst h0
    have:x.names.countP (fun e=>decide (e.2=0))=0:=by
     rw[List.countP_eq_zero]
     intro e he
     have:=(h.leads k x hx e he).2
     simpa using this
    omega
   ·obtain⟨q,hq,rfl⟩:=List.mem_map.1 hj
    have hy:=bX dR h.sorted hq
    have h2:=h.counts _ _ hy h0
    have h3:=(h.each _ _ hy).links
    have h4:=KQ (k:=q.1) hx
    unfold cn at h4
    omega)
 have:=h.len
 rw[List.length_map]at h1
 omega
theorem oh {T:aH} (hs:aP iC T) {k j:Int} {x y:bF} (h:aj j (bY iC k x T)=some y):(j=k∧y=x)∨(j≠k∧aj j T=some y):=by
 rw[eX]at h
 by_cases hj:j=k
 ·rw[if_pos hj]at h
  exact .inl ⟨hj,by simpa using h.symm⟩
 ·rw[if_neg hj]at h
  exact .inr ⟨hj,h⟩
theorem wU {kind:Int} (hk:kind=1∨kind=2):Ci (bq kind):=by
 refine⟨hk,fun _=>rfl,fun h=>⟨rfl,?_,rfl,rfl⟩,(fun h=>by cases h),by simp[bq,aP],by simp[bq],by simp[bq],by simp[bq],by simp[bq]⟩
 have:kind=2:=h
 simp[bq,this]
theorem tF.add {T:aH} (h:tF T) {f:Int} {kind:Int} (hk:kind=1∨kind=2) (hf:aj f T=none) (h1:0≤f) (h2:f≤65535) (hl:T.length<64):tF (bY iC f (bq kind) T):=by
 refine⟨h.sorted.bY dR _ _,?_,fun j y hy=> ?_,fun j y hy e he=> ?_,by rw[sM _ hf];omega,fun j y hy=> ?_⟩
 ·obtain⟨x,hx,hk0⟩:=jf h.root
  unfold bZ
  rw[eX,if_neg (fun e=>by rw[e,hf]at hx;cases hx),hx]
  exact hk0
 ·rcases oh h.sorted hy with⟨rfl,rfl⟩|⟨_,hy⟩
  ·exact wU hk
  ·exact h.each j y hy
 ·rcases oh h.sorted hy with⟨rfl,rfl⟩|⟨_,hy⟩
  ·cases he
  ·have:=h.leads j y hy e he
   refine⟨?_,this.2⟩
   rw[eX]
   split
   ·rfl
   ·exact this.1
 ·rcases oh h.sorted hy with⟨rfl,rfl⟩|⟨_,hy⟩
  ·exact⟨h1,h2⟩
  ·exact h.ids j y hy
theorem FH {T:aH} {f kind:Int} (hf:aj f T=none) (k:Int):fZ (bY iC f (bq kind) T) k=fZ T k:=by
 unfold bY
 rw[jJ hf,wT]
 simp[cn,bq]
theorem Cm (n:Nm) (id k:Int):∀l:List (Nm×Int),(h_ bytesBefore (n,id) l).countP (fun e=>decide (e.2=k))=l.countP (fun e=>decide (e.2=k))+if id=k then 1 else 0
 |[]=>by simp[h_,List.countP_cons]
 |y::r=>by
  unfold h_
  split
  ·simp[List.countP_cons]
  ·simp only[List.countP_cons,Cm n id k r]
   omega
theorem Ak {x:bF} {n:Nm} {id:Int} (h:aj n x.names=none) (k:Int):cn k {x with names:=bY bytesBefore n id x.names}=cn k x+if id=k then 1 else 0:=by
 unfold cn bY
 simp only
 rw[jJ h,Cm]
theorem Dq {T:aH} (h:tF T) {f:Int} (hf:aj f T=none):fZ T f=0:=by
 have:∀l:aH,(∀q∈l,cn f q.2=0)→fZ l f=0:=by
  intro l
  induction l with
  |nil=>intro _;rfl
  |cons y r ih=>
   intro hh
   have h1:=ih (fun q hq=>hh q (by simp[hq]))
   have h2:=hh y (by simp)
   unfold fZ at h1⊢
   simp only[List.map_cons,List.sum_cons]
   omega
 refine this T fun q hq=> ?_
 unfold cn
 rw[List.countP_eq_zero]
 intro e he hd
 have h1:=h.leads _ _ (bX dR h.sorted hq) e he
 simp only[decide_eq_true_eq]at hd
 rw[hd,hf]at h1
 cases h1.1
theorem Jo {x:bF} (h:Ci x) (hk:x.kind=2) {n:Nm} (hn:dG n=true) (id:Int):Ci {x with names:=bY bytesBefore n id x.names}:=by
 refine⟨h.kind,fun h1=> ?_,h.dir,h.gone,h.sorted.bY uD _ _,fun e he=> ?_,h.size,h.links,h.aQ⟩
 ·have:x.kind=1:=h1
  omega
 ·rcases (jV bytesBefore).1 he with h1|h1
  ·rw[h1];exact hn
  ·exact h.good e (List.mem_filter.1 h1).1
theorem wV {x:bF} {n:Nm} {id:Int} {P:Nm×Int→Prop} (h:∀e∈x.names,P e) (h1:P (n,id)):∀e∈bY bytesBefore n id x.names,P e:=by
 intro e he
 rcases (jV bytesBefore).1 he with h2|h2
 ·rw[h2];exact h1
 ·exact h e (List.mem_filter.1 h2).1
theorem tF.set {T:aH} (h:tF T) {d:Int} {x:bF} {n:Nm} {id:Int} (hx:aj d T=some x) (hk:x.kind=2) (hn:dG n=true) (hid:(aj id T).isSome=true∧id≠0):tF (setName T d n id):=
 h.bf hx (Jo (h.each d x hx) hk hn id) rfl (wV (h.leads d x hx) hid)
theorem dA.make {T:aH} (h:dA T) {d kind f:Int} {x:bF} {n:Nm} (hk:kind=1∨kind=2) (hf:aj f T=none) (h1:1≤f) (h2:f≤65535) (hl:T.length<64) (hx:aj d T=some x) (hxk:x.kind=2) (hn:dG n=true) (hnn:aj n x.names=none):
  dA (setName (bY iC f (bq kind) T) d n f):=by
 have hP:=h.totF.add hk hf (by omega) h2 hl
 have hdf:d≠f:=fun e=>by rw[e,hf]at hx;cases hx
 have hx':aj d (bY iC f (bq kind) T)=some x:=by rw[eX,if_neg hdf];exact hx
 have X9:aj f (bY iC f (bq kind) T)=some (bq kind):=by rw[eX,if_pos rfl]
 refine⟨hP.set hx' hxk hn ⟨by rw[X9];rfl,by omega⟩,fun j y hy hj=> ?_⟩
 have h3:=jL hP.sorted (fun x=>{x with names:=bY bytesBefore n f x.names}) hx' j
 have h4:=Ak (id:=f) hnn j
 have h5:=FH (kind:=kind) hf j
 have hgt:∀z,aj j (bY iC f (bq kind) T)=some z→z.links=y.links→(fZ (setName (bY iC f (bq kind) T) d n f) j:Int)=y.links:=by
  intro z hz hzl
  unfold setName
  rcases oh h.sorted hz with⟨rfl,rfl⟩|⟨WH,hz⟩
  ·have:=Dq h.totF hf
   rw[if_pos rfl]at h4
   have e:fZ (Go.Proofs.YtohpcppeajijnaaGreat.bf d (fun x=>{x with names:=bY bytesBefore n j x.names}) (bY iC j (bq kind) T)) j=1:=by omega
   rw[e,←hzl]
   rfl
  ·rw[if_neg (Ne.symm WH)]at h4
   have:=h.counts j z hz hj
   have e:fZ (Go.Proofs.YtohpcppeajijnaaGreat.bf d (fun x=>{x with names:=bY bytesBefore n f x.names}) (bY iC f (bq kind) T)) j=fZ T j:=by omega
   rw[e,this,hzl]
 unfold setName at hy
 rw[aS]at hy
 by_cases hjd:j=d
 ·subst hjd
  rw[if_pos rfl,hx']at hy
  simp only[Option.map_some,Option.some.injEq]at hy
  exact hgt x hx' (by rw[←hy])
 ·rw[if_neg hjd]at hy
  exact hgt y hy rfl
theorem Tryz.bI (w:World):(zeroValue 92).run Tryz.prog w= .ok (.pointer none) w:=by kernel_rfl
theorem Tryz.fP (w:World):(zeroValue 3).run Tryz.prog w= .ok (.int .i64 0) w:=by kernel_rfl
theorem om {k:Int} (h1:0≤k) (h2:k≤1000000):bP.ok k:=by
 simp[bP,Lit.wf,IntKind.min,IntKind.max,IntKind.signed,IntKind.bits];omega
theorem mD {a b:Int} {c d:Int} (h:(a,c)=(b,d)):Ending.returned (.tuple #[.int .i64 a, .int .i64 c])= .returned (.tuple #[.int .i64 b, .int .i64 d]):=by
 cases h;rfl
theorem uJ {T:aH} {id:Int} {x:bF} {ls:List Nm} {k:Nat} {n:Nm} {j:Int} (hx:aj id T=some x) (hk2:x.kind=2) (hn:ls[k]? =some n) (hj:aj n x.names=some j):aF T id (ls.drop k)=aF T j (ls.drop (k+1)):=by
 obtain⟨hk,e⟩:=List.getElem?_eq_some_iff.1 hn
 rw[List.drop_eq_getElem_cons hk,e,aF,hx]
 simp only[hk2,if_pos,hj]
theorem uK {T:aH} {id:Int} {x:bF} {ls:List Nm} {k:Nat} {n:Nm} (hx:aj id T=some x) (hk2:x.kind≠2) (hn:ls[k]? =some n):aF T id (ls.drop k)=(0,23):=by
 obtain⟨hk,e⟩:=List.getElem?_eq_some_iff.1 hn
 rw[List.drop_eq_getElem_cons hk,e,aF,hx]
 simp only[if_neg hk2]
theorem uL {T:aH} {id:Int} {x:bF} {ls:List Nm} {k:Nat} {n:Nm} (hx:aj id T=some x) (hk2:x.kind=2) (hn:ls[k]? =some n) (hj:aj n x.names=none):aF T id (ls.drop k)=(0,20):=by
 obtain⟨hk,e⟩:=List.getElem?_eq_some_iff.1 hn
 rw[List.drop_eq_getElem_cons hk,e,aF,hx]
 simp only[hk2,if_pos,hj]
set_option maxHeartbeats 4000000 in
theorem oo {S:Nat→Prop} {g:Nat→Own} {D:Nat→Prop} {p mb:Nat} {ib nb:Int→Nat} {T:aH} (a:Option Addr) (n c:Nat) (ls:List Nm) (w:World) (h:aK g D w p mb ib nb T) (hT:dA T) (hS:aG S w a n (ls.map strOf)):
  Calls Tryz.prog 66 #[ptr p, .slice a n c] w fun e w'=>e= .returned (.tuple #[.int .i64 (aF T 0 ls).1, .int .i64 (aF T 0 ls).2])∧w=w':=by
 have hln:ls.length=n:=by have:=hS.length;simpa using this
 have hnm:=hS.row.small
 unfold maxLen at hnm
 obtain⟨hc0,hpw,hmw⟩:=h.cell
 have HH:=Lib.hid h
 have HT:=Lib.hid hT
 have HS:=Lib.hid hS
 have HL:=Lib.hid hln
 clear h hT hS hln
 go_enter Tryz.func66,Tryz.ntmps66
 go_wp2
 go_loop [6,14] (fun s i=>∃(k:Nat) (id:Int),k≤n∧i= .int .i64 k∧s= .int .i64 id∧(aj id T).isSome=true∧aF T id (ls.drop k)=aF T 0 ls) (fun _ i=>n-(intOf i).toNat)
 case atStart=>exact⟨0,0,by omega,rfl,rfl,dW HT.out,by simp⟩
 case round=>
  obtain⟨k,id,hk,rfl,rfl,hid,hlk⟩:=hrel
  obtain⟨x,hx⟩:=Option.isSome_iff_exists.1 hid
  have kK:=Lib.hid hlk
  have HX:=Lib.hid hx
  clear hlk hid hx
  have nR:=HT.out.ids id x HX.out
  have hok:bP.ok id:=om nR.1 (by omega)
  obtain⟨c0,c1,c2,c3,c4,c5,c7,hiw⟩:=(HH.out.item id x HX.out).cell
  have hget:aj id (T.map fun q=>(q.1,ptr (ib q.1)))=some (ptr (ib id)):=by rw[dX,HX.out];rfl
  have HG:=Lib.hid hget
  clear hget
  have hmap:=Lib.hid HH.out.map
  by_cases hlt:k<n
  ·obtain⟨b,off,s,rfl,_,hbw,hs,hsz,hcell⟩:=HS.out.cell k hlt
   obtain⟨nm,hnm',rfl⟩:∃nm,ls[k]? =some nm∧strOf nm=s:=by
    rw[List.getElem?_map]at hs
    cases hq:ls[k]? with
    |none=>rw[hq]at hs;cases hs
    |some nm=>rw[hq]at hs;exact⟨nm,rfl,by simpa using hs⟩
   have HN:=Lib.hid hnm'
   have jw:dx.ok nm:=by show nm.length≤maxLen;rw[←dF];exact hsz
   clear hs hnm'
   by_cases hk2:x.kind=2
   ·have e2:dJ x (nb id)= .map (some (nb id)):=if_pos hk2
    rw[e2]at c7
    rw[hk2]at c1
    have dY:=Lib.hid ((HH.out.item id x HX.out).names hk2)
    cases hj:aj nm x.names with
    |none=>
     have hgn:aj nm (bR x)=none:=by rw[dP,hj];rfl
     have yP:=Lib.hid hgn
     have hfin:=Lib.hid (uL HX.out hk2 HN.out hj)
     clear hgn hj e2 hk2
     go_wp2_with (first|(at_lookup;refine aW bP rfl _ _ 94 92 rfl Tryz.underlying94 (Tryz.bI _) rfl hmap.out id rfl hok ?_;rw[HG.out])|(at_lookup;refine aX dx rfl _ _ 107 3 rfl Tryz.underlying107 (Tryz.fP _) rfl dY.out nm rfl jw ?_;rw[yP.out]))
     go_ret2
     exact⟨mD (by rw[←kK.out,hfin.out]),rfl⟩
    |some j=>
     have hgn:aj nm (bR x)=some (.int .i64 j):=by rw[dP,hj];rfl
     have yP:=Lib.hid hgn
     have hfin:=Lib.hid (uJ HX.out hk2 HN.out hj)
     have HJ:=Lib.hid ((HT.out.leads id x HX.out _ (cu hj)).1)
     clear hgn hj e2 hk2
     go_wp2_with (first|(at_lookup;refine aW bP rfl _ _ 94 92 rfl Tryz.underlying94 (Tryz.bI _) rfl hmap.out id rfl hok ?_;rw[HG.out])|(at_lookup;refine aX dx rfl _ _ 107 3 rfl Tryz.underlying107 (Tryz.fP _) rfl dY.out nm rfl jw ?_;rw[yP.out]))
     go_round
     case rel=>exact⟨k+1,j,by omega,by go_num,rfl,HJ.out,by rw[←hfin.out];exact kK.out⟩
     case measure=>simp[intOf];omega
   ·have e1:(x.kind==2)=false:=by simpa using hk2
    have hfin:=Lib.hid (uK HX.out hk2 HN.out)
    clear hk2 c7
    go_wp2_with (first|(at_lookup;refine aW bP rfl _ _ 94 92 rfl Tryz.underlying94 (Tryz.bI _) rfl hmap.out id rfl hok ?_;rw[HG.out]))
    go_ret2
    exact⟨mD (by rw[←kK.out,hfin.out]),rfl⟩
  ·clear c7
   go_wp2
   go_ret2
   exact⟨mD (by rw[←kK.out,List.drop_of_length_le (by have:=HL.out;omega)];rfl),rfl⟩
def kZ (T:aH) (ib:Int→Nat) (ls:List Nm) (w:World) (e:Ending) (w':World):Prop:=
 e= .returned (.tuple #[if (aC T ls).2.2=0 then ptr (ib (aC T ls).1)else .pointer none, .string (strOf (aC T ls).2.1), .int .i64 (aC T ls).2.2])∧Below w.heap.size w w'
set_option maxHeartbeats 4000000 in
theorem oQ {S:Nat→Prop} {g:Nat→Own} {D:Nat→Prop} {p mb:Nat} {ib nb:Int→Nat} {T:aH} (a:Option Addr) (n c:Nat) (ls:List Nm) (w:World) (h:aK g D w p mb ib nb T) (hT:dA T) (hS:aG S w a n (ls.map strOf)) (hc:n≤c) (jd:n≤1000000):
  Calls Tryz.prog 60 #[ptr p, .slice a n c] w (kZ T ib ls w):=by
 have hln:ls.length=n:=by have:=hS.length;simpa using this
 have HH:=Lib.hid h
 have HT:=Lib.hid hT
 have HL:=Lib.hid hln
 have hpar:=Ah a n c (ls.map strOf) w hS (by omega) hc
 have HP:=Lib.hid hpar
 clear h hT hS hln hpar
 by_cases hl0:ls=[]
 ·subst hl0
  go_enter Tryz.func60,Tryz.ntmps60
  go_wp2_with fail
  (with_reducible refine HP.out.mono ?_)
  rintro e w1 (⟨_,rfl,rfl⟩|⟨_,_,x,hx,_⟩)
  ·go_wp2_with fail
   go_ret3
   exact⟨rfl,Below.refl _ _⟩
  ·cases hx
 ·have Oc:=Lib.hid hl0
  clear hl0
  go_enter Tryz.func60,Tryz.ntmps60
  go_wp2_with fail
  (with_reducible refine HP.out.mono ?_)
  rintro e w1 (⟨h0,_⟩|⟨gb,cap,x,hx,rfl,hca,hS1,hb1⟩)
  ·exact absurd (List.map_eq_nil_iff.1 h0) Oc.out
  ·have hdl:(ls.map strOf).dropLast=ls.dropLast.map strOf:=by simp[List.map_dropLast]
   rw[hdl]at hS1
   have hxl:x=strOf (ls.getLastD []):=by
    rw[List.getLast?_map]at hx
    cases hq:ls.getLast? with
    |none=>rw[hq]at hx;cases hx
    |some y=>
     rw[hq]at hx
     simp only[Option.map_some,Option.some.injEq]at hx
     rw[←hx]
     cases ls with
     |nil=>cases hq
     |cons z r=>rw[List.getLast?_eq_some_getLast (by simp)]at hq;simp only[Option.some.injEq]at hq;rw[←hq,List.getLastD_eq_getLast?,List.getLast?_eq_some_getLast (by simp)];rfl
   subst hxl
   obtain⟨m,hm⟩:∃m,m=(ls.map strOf).length-1:=⟨_,rfl⟩
   obtain⟨nl,hnl⟩:∃nl,nl=ls.getLastD []:=⟨_,rfl⟩
   rw[←hm]at hS1 hca⊢
   rw[←hnl]at hx⊢
   have I8:=Lib.hid hnl
   clear hm hnl
   have X_:=hb1.size
   have hA1:=HH.out.below hb1 (Nat.le_refl _)
   have kK:=Lib.hid (oo (some ⟨gb,0,none⟩) m cap ls.dropLast w1 hA1 HT.out hS1)
   have HA1:=Lib.hid hA1
   have HB1:=Lib.hid hb1
   clear hA1 hb1 hx hdl hS1 HP hca
   obtain⟨hc0,hpw,hmw⟩:=HA1.out.cell
   have hmap:=Lib.hid HA1.out.map
   by_cases he:(aF T 0 ls.dropLast).2=0
   ·obtain⟨y,hy⟩:=Option.isSome_iff_exists.1 (fA HT.out ls.dropLast 0 (dW HT.out) he)
    have HE:=Lib.hid he
    obtain⟨d,hd⟩:∃d,d=(aF T 0 ls.dropLast).1:=⟨_,rfl⟩
    rw[←hd]at hy kK
    rw[he]at kK
    have HD:=Lib.hid hd
    have HY:=Lib.hid hy
    clear hy he hd
    have nR:=HT.out.ids d y HY.out
    have hok:bP.ok d:=om nR.1 (by omega)
    obtain⟨c0,c1,c2,c3,c4,c5,c7,hiw⟩:=(HA1.out.item d y HY.out).cell
    have hget:aj d (T.map fun q=>(q.1,ptr (ib q.1)))=some (ptr (ib d)):=by rw[dX,HY.out];rfl
    have HG:=Lib.hid hget
    have hkm:bZ T (aF T 0 ls.dropLast).1=y.kind:=by rw[←HD.out];unfold bZ;rw[HY.out]
    have WI:=Lib.hid hkm
    clear hget hkm c7
    by_cases hk2:y.kind=2
    ·have hpl:aC T ls=(d,nl,0):=by
      unfold aC
      rw[if_neg Oc.out,if_neg (by rw[HE.out];simp),if_pos (WI.out.trans hk2),←HD.out,←I8.out]
     have ql:=Lib.hid hpl
     rw[hk2]at c1
     clear hk2 hpl
     go_wp2_with fail
     (with_reducible refine kK.out.mono ?_)
     rintro e w2 ⟨rfl,rfl⟩
     go_wp2_with (first|(at_lookup;refine aW bP rfl _ _ 94 92 rfl Tryz.underlying94 (Tryz.bI _) rfl hmap.out d rfl hok ?_;rw[HG.out]))
     go_ret3
     exact⟨by rw[ql.out];rfl,HB1.out⟩
    ·have hpl:aC T ls=(0,[],23):=by
      unfold aC
      rw[if_neg Oc.out,if_neg (by rw[HE.out];simp),if_neg (by rw[WI.out];exact hk2)]
     have ql:=Lib.hid hpl
     have e1:(y.kind==2)=false:=by simpa using hk2
     clear hk2 hpl
     go_wp2_with fail
     (with_reducible refine kK.out.mono ?_)
     rintro e w2 ⟨rfl,rfl⟩
     go_wp2_with (first|(at_lookup;refine aW bP rfl _ _ 94 92 rfl Tryz.underlying94 (Tryz.bI _) rfl hmap.out d rfl hok ?_;rw[HG.out]))
     go_ret3
     exact⟨by rw[ql.out];rfl,HB1.out⟩
   ·have hpl:aC T ls=(0,[],(aF T 0 ls.dropLast).2):=by
     unfold aC
     rw[if_neg Oc.out,if_pos he]
    have hne:((aF T 0 ls.dropLast).2==0)=false:=by simpa using he
    have ql:=Lib.hid hpl
    have HE:=Lib.hid he
    generalize hgg:aF T 0 ls.dropLast=r at kK hne HE ql
    have HGG:=Lib.hid hgg
    clear hpl he hgg
    go_wp2_with fail
    (with_reducible refine kK.out.mono ?_)
    rintro e w2 ⟨rfl,rfl⟩
    go_wp2_with fail
    go_ret3
    exact⟨by rw[ql.out,if_neg HE.out];rfl,HB1.out⟩
end Go.Proofs.YtohpcppeajijnaaGreat
