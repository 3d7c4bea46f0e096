/- tree -/
import Derived.Test.YtmflaonodghbcaaGreatDoorM11
set_option maxRecDepth 100000
set_option maxHeartbeats 64000000
set_option linter.all false
namespace Go.Proofs.YtmflaonodghbcaaGreatDoor
open Go.ChangeShapes Go.WideShapes Go.ChangeAt Go.RowKit
section
variable{g:Nat→Own}{D:Nat→Prop}{p mb:Nat}{ib nb:Int→Nat}{T:aI}
theorem iV.frozen{w:World}{k:Int}{i n:Nat}{x:eG}(h:iV D w k i n x)(j:Nat):w.frozen? ⟨i,j,none⟩=false:=by
 obtain⟨⟨a,c,h1,_⟩,_⟩:=h;simp[World.frozen?,h1]
theorem iV.row{w:World}{k:Int}{i n:Nat}{x:eG}(h:iV D w k i n x):∃a c,w.cell? ⟨i,6,none⟩=some (.slice a x.b.length c)∧oI x.b.length c∧ah D w a x.b.length (x.b.map bv)∧w.heap[i]? =some (.cells (iq k x a c n) 192 (0,0)):=by
 obtain⟨⟨a,c,h1,h2,h3⟩,_⟩:=h;exact⟨a,c,by simp only[World.cell?,h1];rfl,h2,h3,h1⟩
theorem aM.fields{w w':World}(h:aM g D w p mb ib nb T){k:Int}{x:eG}(hx:aj k T=some x)(f:eG→eG)(hb:(f x).b=x.b)(hn:(f x).names=x.names)(hk:(f x).kind=x.kind)(hK:Keeps (fun b=>b=ib k) w w')(hs:w'.heap.size=w.heap.size)
  (hc:∀a c,w.heap[ib k]? =some (.cells (iq k x a c (nb k)) 192 (0,0))→w'.heap[ib k]? =some (.cells (iq k (f x) a c (nb k)) 192 (0,0))):aM g D w' p mb ib nb (Go.Proofs.YtmflaonodghbcaaGreatDoor.cu k f T):=by
 have ti:=h.pR k x hx;refine h.cu hx hk (fun _ h=>h) (fun b hb=>⟨h.data b hb,by rw[hs];exact h.oN b hb⟩) (by omega) (fun b hbw h1 _=>hK.block b hbw (fun e=>h1 (by rw[e];exact ti))) ?_;obtain⟨⟨a,c,h1,h2,h3⟩,h4⟩:=h.item k x hx;refine⟨⟨a,c,hc a c h1,by rw[hb];exact h2,by rw[hb];exact h3.kept (by omega) fun b hD hbw=>hK.block b hbw (fun e=>by have:=h.data b hD;rw[e,ti]at this;cases this)⟩,fun hk2=> ?_⟩;have hk2':x.kind=2:=hk▸hk2;have e:dJ (f x)=dJ x:=by unfold dJ;rw[hn]
 rw[e];have tn:=h.mX k x hx hk2';exact(h4 hk2').kept (hK.block _ (h.low _ (by rw[tn];simp)) (fun e=>by rw[e,ti]at tn;cases tn))
theorem Keeps.set2(w:World)(i j j':Nat)(v v':Value):Keeps (fun b=>b=i) w ((w.setCell ⟨i,j,none⟩ v).setCell ⟨i,j',none⟩ v'):=
 (Keeps.kX w ⟨i,j,none⟩ v).trans (Keeps.kX _ ⟨i,j',none⟩ v') (fun _ _ h=>h)
theorem DU(id:Int)(k:Int)(hk:jr T id=k)(hk0:k≠0)(w:World)(h:aM g D w p mb ib nb T)(hid:(Lit.int .i64 id).wf=true):
  Calls Tryz.prog 190 #[ptr p,.int .i64 id] w fun e w'=>e= .returned (.tuple #[.pointer none,.int .i64 k])∧w=w':=by
 obtain⟨hc0,hpw,hmw⟩:=h.cell;have hmap:=ab9 h.map;have hok:aU.ok id:=hid;unfold jr at hk;cases hx:aj id T with
 |none=>
  rw[hx]at hk;simp only at hk;subst hk;have HG:acd (aj id (T.map fun q=>(q.1,ptr (ib q.1)))=none):=by rw[dH,hx];rfl
  clear h hx hid hk0;go_enter Tryz.func190,Tryz.ntmps190;go_wp2_with (at_lookup;refine aS aU rfl _ _ 186 189 rfl Tryz.underlying186 (Tryz.bW _) rfl hmap.o id rfl hok ?_;rw[HG.o])
  go_ret2
  exact⟨rfl,rfl⟩
 |some x=>
  rw[hx]at hk;simp only at hk;by_cases hk2:x.kind=2
  ·rw[if_pos hk2]at hk;subst hk;have HG:acd (aj id (T.map fun q=>(q.1,ptr (ib q.1)))=some (ptr (ib id))):=by rw[dH,hx];rfl
   obtain⟨c0,c1,c2,c3,c4,c5,c7,hiw⟩:=(h.item id x hx).cell;rw[hk2]at c1;clear h hx hid hk0 c7 hk2;go_enter Tryz.func190,Tryz.ntmps190;go_wp2_with (at_lookup;refine aS aU rfl _ _ 186 189 rfl Tryz.underlying186 (Tryz.bW _) rfl hmap.o id rfl hok ?_;rw[HG.o])
   go_ret2
   exact⟨rfl,rfl⟩
  ·rw[if_neg hk2]at hk;exact absurd hk.symm hk0
theorem CU(id:Int){x:eG}(hx:aj id T=some x)(hk2:x.kind≠2)(w:World)(h:aM g D w p mb ib nb T)(hid:(Lit.int .i64 id).wf=true):
  Calls Tryz.prog 190 #[ptr p,.int .i64 id] w fun e w'=>e= .returned (.tuple #[ptr (ib id),.int .i64 0])∧w=w':=by
 obtain⟨hc0,hpw,hmw⟩:=h.cell;have hmap:=ab9 h.map;have hok:aU.ok id:=hid;have HG:acd (aj id (T.map fun q=>(q.1,ptr (ib q.1)))=some (ptr (ib id))):=by rw[dH,hx];rfl
 obtain⟨c0,c1,c2,c3,c4,c5,c7,hiw⟩:=(h.item id x hx).cell;have e1:(x.kind==2)=false:=by simpa using hk2
 clear h hx hid c7 hk2;go_enter Tryz.func190,Tryz.ntmps190;go_wp2_with (at_lookup;refine aS aU rfl _ _ 186 189 rfl Tryz.underlying186 (Tryz.bW _) rfl hmap.o id rfl hok ?_;rw[HG.o])
 go_ret2
 exact⟨rfl,rfl⟩
def DV(k:Int)(x:eG):Value:= .agg #[.int .i64 k,.int .i64 x.kind,.int .i64 x.links,.int .i64 x.b.length,.int .u64 x.aT,.bool x.closed]
def um(T:aI)(id:Int):Value:=match aj id T with
 |some x=>DV id x
 |none=> .agg #[.int .i64 0,.int .i64 0,.int .i64 0,.int .i64 0,.int .u64 0,.bool false]
theorem KE(id:Int)(w:World)(h:aM g D w p mb ib nb T)(hid:(Lit.int .i64 id).wf=true):
  Calls Tryz.prog 121 #[ptr p,.int .i64 id] w fun e w'=>e= .returned (.tuple #[um T id,.bool (aj id T).isSome])∧Below w.heap.size w w':=by
 obtain⟨hc0,hpw,hmw⟩:=h.cell;have hok:aU.ok id:=hid;have U4:∀o,MapAt aU (w.alloc o) mb (T.map fun q=>(q.1,ptr (ib q.1))):=fun o=>h.map.kept ((wall w o).block mb hmw);have hmap:=ab9 U4;unfold um;cases hx:aj id T with
 |none=>
  have HG:acd (aj id (T.map fun q=>(q.1,ptr (ib q.1)))=none):=by rw[dH,hx];rfl
  clear h hx hid U4;go_enter Tryz.func121,Tryz.ntmps121;go_wp2_with (at_lookup;refine aS aU rfl _ _ 186 189 rfl Tryz.underlying186 (Tryz.bW _) rfl (hmap.o _) id rfl hok ?_;rw[HG.o]);exact aap (v:= .tuple #[.agg #[.int .i64 0,.int .i64 0,.int .i64 0,.int .i64 0,.int .u64 0,.bool false],.bool false]) (by simp[results,Tryz.results121,go_sem]) rfl ⟨rfl,wall w _⟩
 |some x=>
  have HG:acd (aj id (T.map fun q=>(q.1,ptr (ib q.1)))=some (ptr (ib id))):=by rw[dH,hx];rfl
  obtain⟨c0,c1,c2,c3,c4,c5,c7,hiw⟩:=(h.item id x hx).cell;clear h hx hid c7 U4;unfold DV;go_enter Tryz.func121,Tryz.ntmps121;go_wp2_with (at_lookup;refine aS aU rfl _ _ 186 189 rfl Tryz.underlying186 (Tryz.bW _) rfl (hmap.o _) id rfl hok ?_;rw[HG.o]);exact aap (v:= .tuple #[.agg #[.int .i64 id,.int .i64 x.kind,.int .i64 x.links,.int .i64 x.b.length,.int .u64 x.aT,.bool x.closed],.bool true]) (by simp[results,Tryz.results121,go_sem]) rfl ⟨rfl,wall w _⟩
end
section
variable{g:Nat→Own}{D:Nat→Prop}{p mb:Nat}{ib nb:Int→Nat}{T:aI}
theorem MapAt.KF{P:Program}{K:TypeId}{κ:Type}[DecidableEq κ]{F:Am P K κ}{w:World}{t e:TypeId}(ht:P.underlying t=some (.map K e)){b:Nat}{l:List (κ×Value)}(hM:MapAt F w b l)(k:κ)(hok:F.ok k):
  ∃w',(∀ty,(Builtin.delete_ #[t,K] ty #[.map (some b),F.val k]).run P w= .ok (.tuple #[]) w')∧MapAt F w' b (bM k l)∧w.mapTurned w' b:=by
 obtain⟨w',hrun,r1,r2⟩:=World.ownsMap.drop hM F.law ht (F.of k hok) 0;rw[Qh]at r1;exact⟨w',fun ty=>hrun,MapAt.vW r1,r2⟩
def Y8(g:Nat→Own)(D:Nat→Prop)(w:World)(p mb:Nat)(ib nb:Int→Nat)(T':aI)(e:Ending)(w':World):Prop:=
 e= .returned (.tuple #[])∧aM g D w' p mb ib nb T'∧Keeps (fun b=>b=mb) w w'∧w'.heap.size=w.heap.size
theorem DW(id:Int){x:eG}(hx:aj id T=some x)(hid:(Lit.int .i64 id).wf=true)(w:World)(h:aM g D w p mb ib nb T):
  Calls Tryz.prog 191 #[ptr p,ptr (ib id)] w (Y8 g D w p mb ib nb (gX T id)):=by
 obtain⟨hc0,hpw,hmw⟩:=h.cell;obtain⟨c0,c1,c2,c3,c4,c5,c7,hiw⟩:=(h.item id x hx).cell;have HH:=ab9 h;have hs:gX T id=if x.links=0∧x.closed=true then bM id T else T:=by unfold gX;rw[hx]
 have HS:=ab9 hs;have HX:=ab9 hx;clear hs hx h c7;by_cases h0:x.links=0
 ·have e0:(x.links==0)=true:=by simpa using h0
  rw[h0]at c2;cases hcl:x.closed with
  |true=>
   rw[hcl]at c5;have HF:acd (gX T id=bM id T):=HS.o.trans (if_pos ⟨h0,hcl⟩)
   have hst:∃w4,(∀ty,(Builtin.delete_ #[186,3] ty #[.map (some mb),.int .i64 id]).run Tryz.prog w.drew= .ok (.tuple #[]) w4)∧MapAt aU w4 mb (bM id (T.map fun q=>(q.1,ptr (ib q.1))))∧w.drew.mapTurned w4 mb:=
    MapAt.KF (F:=aU) Tryz.underlying186 (HH.o.map.kept (w':=w.drew) rfl) id hid
   have HST:=ab9 hst;have hne1:p≠mb:=fun e=>by have h1:=HH.o.qE;rw[e,HH.o.jg]at h1;cases h1
   have hne2:ib id≠mb:=fun e=>by have h1:=HH.o.pR id x HX.o;rw[e,HH.o.jg]at h1;cases h1
   have GL:acd (∀w4,w.drew.mapTurned w4 mb→w4.cell? ⟨p,0,none⟩=some (.map (some mb))∧w4.cell? ⟨ib id,0,none⟩=some (.int .i64 id)):=fun w4 hT=>⟨(World.cell?_of_block (w:=w.drew) (w':=w4) (a:=⟨p,0,none⟩) (cK hT p hpw hne1)).trans hc0,(World.cell?_of_block (w:=w.drew) (w':=w4) (a:=⟨ib id,0,none⟩) (cK hT _ hiw hne2)).trans c0⟩;clear hst HS h0 hcl e0 hne1 hne2;go_enter Tryz.func191,Tryz.ntmps191;go_wp2
   go_region_held3 (fun w'=>w'.cell? ⟨p,0,none⟩=some (.map (some mb))∧w'.cell? ⟨ib id,0,none⟩=some (.int .i64 id)) (first|exact⟨hc0,c0⟩|exact GL.o _ sH) ((first|(obtain⟨w4,GU,qK,sH⟩:=HST.o;rw[GU];go_simp)))
   have hsz:=fI sH;have hK:=gD sH
   go_end0
   refine⟨rfl,?_,⟨hK.os,hK.tape,hK.output,hK.size,hK.block⟩,hsz⟩;rw[HF.o];exact(HH.o.below acf.drew ace).del qK hK.size (fun b hb hbm=>hK.block b hb hbm)
  |false=>
   rw[hcl]at c5;have HF:acd (gX T id=T):=HS.o.trans (if_neg (fun h=>by rw[hcl]at h;cases h.2));clear HS h0 hcl e0;go_enter Tryz.func191,Tryz.ntmps191;go_wp2
   go_end0
   exact⟨rfl,by rw[HF.o];exact HH.o,Keeps.refl _ _,rfl⟩
 ·have e0:(x.links==0)=false:=by simpa using h0
  have HF:acd (gX T id=T):=HS.o.trans (if_neg (fun h=>h0 h.1));clear HS h0;go_enter Tryz.func191,Tryz.ntmps191;go_wp2
  go_end0
  exact⟨rfl,by rw[HF.o];exact HH.o,Keeps.refl _ _,rfl⟩
end
end Go.Proofs.YtmflaonodghbcaaGreatDoor
