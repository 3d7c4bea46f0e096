/- Arguments opened: lists of permafrostlaw11.Ask. -/
import Derived.Test.YtmabllemjkcobaaGreatM03
import Derived.Test.YtmabllemjkcobaaGreatM32
namespace Go.Proofs.YtmabllemjkcobaaGreat
open Go.Joins Go.ChangeShapes Go.WideShapes Go.ChangeAt Go.RowKit Go.Deep
set_option linter.unusedVariables false
structure U9 (W:World) (g off:Nat) (x:oO) (ba:Option Addr) (bn bc:Nat):Prop where
 cells:W.cell? ⟨g,off,none⟩=some (.int .i64 x.kind)∧W.cell? ⟨g,off+1,none⟩=some (.int .i64 x.P)∧W.cell? ⟨g,off+2,none⟩=some (.int .i64 x.yU)∧W.cell? ⟨g,off+3,none⟩=some (.bool x.dir)∧W.cell? ⟨g,off+4,none⟩=some (.int .i64 x.id)∧W.cell? ⟨g,off+5,none⟩=some (.int .i64 x.at_)∧W.cell? ⟨g,off+6,none⟩=some (.int .i64 x.n)∧W.cell? ⟨g,off+7,none⟩=some (.slice ba bn bc)∧W.cell? ⟨g,off+8,none⟩=some (.int .u64 x.aQ)
 ok:x.Ok
 cap:bn≤bc
 row:aC (fun b=>b<W.heap.size) W ba bn (x.b.map bv)
 reach:bn≤140737488351232
def FZ (W:World) (a:Option Addr) (len:Nat):Prop:=
 len≤maxLen∧(0<len→∃b off,a=some ⟨b,off,none⟩∧b<W.heap.size∧∀k,k<len→∃x ba bn bc,U9 W b (off+k*9) x ba bn bc)
theorem Lm {z:Int} (h:(Lit.int .u64 z).wf=true):0≤z∧z≤18446744073709551615:=by
 simp[Lit.wf,IntKind.min,IntKind.max,IntKind.signed,IntKind.bits]at h
 omega
section
variable {H:Type} {enc:TypeId×Value→H} {W:World}
theorem sI {fuel:Nat} {v:Value} {x:DataW H×List MemPlace} (h:DataW.trod enc Tryz.prog W 0 (fun _=>true) true fuel 71 [v]=some x) (l:∀p∈x.2,p.block<W.heap.size) (hw:∀n∈x.1.weights Tryz.prog 71,n≤reachBytes):
  ∃a len cap,v= .slice a len cap∧len≤cap∧FZ W a len:=by
 rcases vg Tryz.underlying71 Tryz.underlying79 (by kernel_rfl) (by kernel_rfl) h with⟨hcs,hx⟩|⟨a,len,cap,m,D,Pl,hcs,_,hl,hm,hmm,hx,hi⟩
 ·simp only[List.cons.injEq,and_true]at hcs
  subst hcs
  exact⟨none,0,0,rfl,Nat.le_refl _,by simp,fun h=>by omega⟩
 ·simp only[List.cons.injEq,and_true]at hcs
  subst hcs
  subst hx
  simp only[if_true]at hmm
  subst hmm
  refine⟨some a,len,m,rfl,hl,by omega,fun h0=> ?_⟩
  have hsub:∀(i:Nat) (ys:List (DataW H×List MemPlace)) (j:Nat) (y:DataW H×List MemPlace),i<m→Pl i=ys.flatMap (·.2)→ys[j]? =some y→∀p∈y.2,p.block<W.heap.size:=by
   intro i ys j y hi' hp hy p hpy
   refine l p (List.mem_append_right _ (List.mem_flatMap.2 ⟨i,List.mem_range.2 hi',?_⟩))
   rw[hp]
   exact List.mem_flatMap.2 ⟨y,List.mem_of_getElem? hy,hpy⟩
  obtain⟨b,off,spot⟩:=a
  have hspot:spot=none:=by
   obtain⟨ys,n,_,_,_,hf⟩:=hi 0 (by omega)
   obtain⟨v,y,hc,_⟩:=hf 0 _ rfl
   simpa[Addr.add]using World.cell?_spot hc
  subst hspot
  have hb:b<W.heap.size:=l (.cell b off) (List.mem_append_left _ (MemPlace.mem_row.2 ⟨0,by simp;omega,by simp⟩))
  refine⟨b,off,rfl,hb,fun k hk=> ?_⟩
  obtain⟨ys,n,hD,hP,hyl,hf⟩:=hi k (by omega)
  obtain⟨v0,y0,c0,e0,t0⟩:=hf 0 _ rfl
  obtain⟨v1,y1,c1,e1,t1⟩:=hf 1 _ rfl
  obtain⟨v2,y2,c2,e2,t2⟩:=hf 2 _ rfl
  obtain⟨v3,y3,c3,e3,t3⟩:=hf 3 _ rfl
  obtain⟨v4,y4,c4,e4,t4⟩:=hf 4 _ rfl
  obtain⟨v5,y5,c5,e5,t5⟩:=hf 5 _ rfl
  obtain⟨v6,y6,c6,e6,t6⟩:=hf 6 _ rfl
  obtain⟨v7,y7,c7,e7,t7⟩:=hf 7 _ rfl
  obtain⟨v8,y8,c8,e8,t8⟩:=hf 8 _ rfl
  obtain⟨z0,f0,_,g0⟩:=DataW.trod_int Tryz.underlying3 t0
  obtain⟨z1,f1,_,g1⟩:=DataW.trod_int Tryz.underlying3 t1
  obtain⟨z2,f2,_,g2⟩:=DataW.trod_int Tryz.underlying3 t2
  obtain⟨z3,f3,_⟩:=DataW.trod_bool Tryz.underlying4 t3
  obtain⟨z4,f4,_,g4⟩:=DataW.trod_int Tryz.underlying3 t4
  obtain⟨z5,f5,_,g5⟩:=DataW.trod_int Tryz.underlying3 t5
  obtain⟨z6,f6,_,g6⟩:=DataW.trod_int Tryz.underlying3 t6
  obtain⟨a7,n7,k7,bs,rfl,q7,r7,r7w⟩:=EK t7 (hsub k ys 7 y7 (by omega) hP e7) (fun n hn=>hw n (DU Tryz.underlying71 (d:=D k) (List.mem_map.2 ⟨k,List.mem_range.2 hk,rfl⟩) (by
   rw[hD]
   exact DV Tryz.underlying79 (j:=7) rfl (d:=y7.1) (by rw[List.getElem?_map,e7];rfl) hn)))
  obtain⟨z8,f8,_,g8⟩:=DataW.trod_int Tryz.underlying43 t8
  simp only[List.cons.injEq,and_true]at f0 f1 f2 f3 f4 f5 f6 f8
  subst f0 f1 f2 f3 f4 f5 f6 f8
  rw[add_plain]at c0 c1 c2 c3 c4 c5 c6 c7 c8
  refine⟨⟨z0,z1,z2,z3,z4,z5,z6,bs,z8⟩,a7,n7,k7,⟨⟨c0,?_,?_,?_,?_,?_,?_,?_,?_⟩,⟨g0,g1,g2,g4,g5,g6,Lm g8⟩,q7,r7,r7w⟩⟩
  ·rw[Nat.add_assoc];exact c1
  ·rw[Nat.add_assoc];exact c2
  ·rw[Nat.add_assoc];exact c3
  ·rw[Nat.add_assoc];exact c4
  ·rw[Nat.add_assoc];exact c5
  ·rw[Nat.add_assoc];exact c6
  ·rw[Nat.add_assoc];exact c7
  ·rw[Nat.add_assoc];exact c8
end
def U_ (w:World) (e:Ending) (w':World):Prop:=∃r,e= .returned (ptr r)∧iq (fun x=>w.heap.size≤x∧x<w'.heap.size) w' r l9∧Below w.heap.size w w'
theorem Lp (w:World) (o1 o2 o3:Obj):(((w.alloc o1).alloc o2).alloc o3).heap[w.heap.size]? =some o1∧(((w.alloc o1).alloc o2).alloc o3).heap[w.heap.size+1]? =some o2∧(((w.alloc o1).alloc o2).alloc o3).heap[w.heap.size+2]? =some o3:=by
 have h:=nD [o1,o2,o3] w
 exact⟨h 0 o1 rfl,h 1 o2 rfl,h 2 o3 rfl⟩
theorem Ao (w:World):Calls Tryz.prog 12 #[] w (U_ w):=by
 go_enter Tryz.func12,Tryz.ntmps12
 go_wp2
 go_ret
 obtain⟨h0,h1,h2⟩:=Lp w (.cells #[.int .i64 0, .int .i64 2, .int .i64 1, .int .i64 0, .int .u64 0, .bool true] 90) (.cells #[.slice none 0 0] 39) (.cells #[.slice (some ⟨w.heap.size,0,none⟩) 1 1, .slice (some ⟨w.heap.size+1,0,none⟩) 1 1, .slice none 0 0] 107)
 refine⟨w.heap.size+2,rfl,⟨⟨some ⟨w.heap.size,0,none⟩,1,some ⟨w.heap.size+1,0,none⟩,1,none,0,h2,Nat.le_refl _,Nat.le_refl _,Nat.le_refl _,?_,⟨[.slice none 0 0],?_,?_⟩,aC.nil _ _ _, .inl ⟨rfl,rfl⟩⟩,?_,?_⟩,?_⟩
 ·exact(gJ (vs:=dI (0,bZ 2)) h0 (by simp[dI,maxLen])).mono fun b hb=>by subst hb;exact⟨⟨Nat.le_refl _,by simp;omega⟩,by omega⟩
 ·exact(gJ (vs:=[.slice none 0 0]) h1 (by simp[maxLen])).mono fun b hb=>by subst hb;exact⟨⟨by omega,by simp⟩,by omega⟩
 ·intro i b hb
  cases i with
  |zero=>
   have:b=[]:=(Option.some.inj hb).symm
   subst this
   exact⟨none,0,rfl,⟨Nat.le_refl _,by simp[maxLen]⟩,aC.nil _ _ _⟩
  |succ i=>simp[l9]at hb
 ·exact⟨by omega,by simp⟩
 ·exact fun b hb=>hb.2
 ·exact(((Below.refl _ _).alloc (Nat.le_refl _) _).alloc (by simp) _).alloc (by simp;omega) _
end Go.Proofs.YtmabllemjkcobaaGreat
