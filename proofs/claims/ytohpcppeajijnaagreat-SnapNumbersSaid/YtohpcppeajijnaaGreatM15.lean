/- tree: Look, Unlink, Rmdir. tree: deep. How deep a tree is; Rename, as plain data. What holds of a tree, and how deep it is, whatever is done. -/
import Derived.Test.YtohpcppeajijnaaGreatM14
namespace Go.Proofs.YtohpcppeajijnaaGreat
open Go.ChangeShapes Go.WideShapes Go.ChangeAt Go.RowKit
set_option linter.unusedVariables false
set_option linter.unusedSimpArgs false
section
variable {g:Nat→Own} {D:Nat→Prop} {p mb:Nat} {ib nb:Int→Nat} {T:aI}
theorem IK {S:Nat→Prop} {d:Int} {nm:Nm} (a:Option Addr) (n c:Nat) (ls:List Nm) (w:World) (h:aK g D w p mb ib nb T) (hT:dR T) (hS:aW S w a n (ls.map strOf)) (hc:n≤c) (pE:n≤1000000) (hp:aV T ls=(d,nm,0)):
  Calls Tryz.prog 60 #[ptr p, .slice a n c] w fun e w'=>e= .returned (.tuple #[ptr (ib d), .string (strOf nm), .int .i64 0])∧Below w.heap.size w w':=by
 have:=xR a n c ls w h hT hS hc pE
 unfold qU at this
 rw[hp]at this
 exact this
theorem Fh {w:World} {d:Int} {x:bf} (h:aK g D w p mb ib nb T) (hx:aF d T=some x) (hk:x.kind=2):w.cell? ⟨ib d,7,none⟩=some (.map (some (nb d)))∧MapAt gF w (nb d) (dP x):=by
 have hi:=h.item d x hx
 obtain⟨_,_,_,_,_,_,c7,_⟩:=hi.cell
 unfold dO at c7
 rw[if_pos hk]at c7
 exact⟨c7,hi.names hk⟩
theorem Wp {nm:Nm} (h:dB nm=true):gF.ok nm:=by
 have:=vB nm h
 show nm.length≤maxLen
 unfold maxLen;omega
theorem O4 {w w':World} {d:Int} {x:bf} {n:Nm} (h:aK g D w p mb ib nb T) (hx:aF d T=some x) (hk:x.kind=2) (hM:MapAt gF w' (nb d) (bK n (dP x))) (hT:w.mapTurned w' (nb d)):aK g D w' p mb ib nb (aU T d n)∧Keeps (fun b=>g b≠ .none) w w':=
 ⟨h.cut hx hk hM hT,(fB hT).mono fun b _ hb=>by rw[show b=nb d from hb,h.lq d x hx hk];simp⟩
theorem fU {w w':World} {fp:Nat→Prop} (hb:Below w.heap.size w w'):Keeps fp w w':=(Keeps.below hb).mono fun b hb hb'=>absurd hb (by omega)
set_option maxRecDepth 100000 in
set_option maxHeartbeats 8000000 in
theorem Fj {S:Nat→Prop} (a:Option Addr) (n c:Nat) (ls:List Nm) (w:World) (h:aK g D w p mb ib nb T) (hT:dR T) (hS:aW S w a n (ls.map strOf)) (hc:n≤c) (pE:n≤1000000):
  Calls Tryz.prog 18 #[ptr p, .slice a n c] w (Turn g D w p mb (bg T ls).2 (.int .i64 (bg T ls).1)):=by
 have HH:=Lib.hid h
 have HT:=Lib.hid hT
 have HS:=Lib.hid hS
 have HF:=Lib.hid (Ah (S:=S) a n c ls w hS)
 have sw:=Lib.hid (fun w1 (hb:Below w.heap.size w w1)=>Ag a n c ls w1 (h.below hb (Nat.le_refl _)) hT (hS.below hb (Nat.le_refl _)))
 clear h hT hS
 by_cases hf:bV ls=0
 ·have uo:=Lib.hid hf
  rw[hf]at HF
  clear hf
  have BM:Hid (kG T ls=aY T 0 ls):=by unfold kG;rw[if_neg (by rw[uo.out];simp)];exact rfl
  obtain⟨⟨id,e0⟩,hq⟩:∃q,q=aY T 0 ls:=⟨_,rfl⟩
  have HQ:=Lib.hid hq
  rw[←hq]at sw BM
  clear hq
  by_cases he:e0=0
  ·subst he
   obtain⟨y,hy⟩:=Option.isSome_iff_exists.1 (Ck HQ.out.symm HT.out)
   have HY:=Lib.hid hy
   have sD:=HT.out.ids id y hy
   have hok:b_.ok id:=tO sD.1 (by omega)
   have HG:Hid (aF id (T.map fun q=>(q.1,ptr (ib q.1)))=some (ptr (ib id))):=by rw[fH,hy];rfl
   have HIT:Hid (∀w1,Below w.heap.size w w1→w1.cell? ⟨p,0,none⟩=some (.map (some mb))∧MapAt b_ w1 mb (T.map fun q=>(q.1,ptr (ib q.1)))∧w1.cell? ⟨ib id,1,none⟩=some (.int .i64 y.kind)):=fun w1 hb=>by
    have h2:=HH.out.below hb (Nat.le_refl _)
    obtain⟨_,c1,c2,_⟩:=(h2.item id y HY.out).cell
    exact⟨h2.cell.1,h2.map,c1⟩
   clear hy
   by_cases hk:y.kind=2
   ·have HM:Hid (bg T ls=(22,T)):=by
     have:fT T ls=22:=by
      unfold fT
      rw[BM.out,←HQ.out,if_neg (by simp),if_pos ((jl HY.out).trans hk)]
     unfold bg;rw[this]<;>exact rfl
    go_enter Tryz.func18,Tryz.ntmps18
    go_wp2_with fail
    (with_reducible refine HF.out.mono ?_)
    rintro e w1 ⟨rfl,hb1⟩
    have HB1:=Lib.hid hb1
    clear hb1
    go_wp2_with fail
    (with_reducible refine(sw.out w1 HB1.out).mono ?_)
    rintro e w2 ⟨rfl,rfl⟩
    obtain⟨c0,hmap,c1⟩:=HIT.out w1 HB1.out
    rw[hk]at c1
    have oz:=Lib.hid hmap
    clear hmap
    go_wp2_with (first|(at_lookup;refine eF b_ rfl _ _ 94 92 rfl Tryz.underlying94 (Tryz.fI _) rfl oz.out id rfl hok ?_;rw[HG.out]))
    go_ret
    rw[HM.out]
    exact Turn.same HH.out HB1.out rfl
   ·have hkk:(y.kind==2)=false:=by simpa using hk
    have hp:ls≠[]:=fun e=>by
     have h1:id=0:=congrArg Prod.fst (HQ.out.trans (by rw[e]<;>exact(rfl:aY T 0 []=(0,0))))
     have:=HT.out.root
     rw[←h1,jl HY.out]at this
     exact hk this
    obtain⟨d,x,nm,e1,-,hx,hxk,hn,hmem,-⟩:=mM HQ.out.symm hp
    have Hl:=Lib.hid (qm uo.out _ hmem)
    have yT:=Wp Hl.out
    have HM:Hid (bg T ls=(0,eT (aT id (fun x=>{x with links:=x.links-1}) (aU T d nm)) id)):=by
     have:fT T ls=0:=by
      unfold fT
      rw[BM.out,←HQ.out,if_neg (by simp),if_neg (by rw[jl HY.out];exact hk)]
     unfold bg mW;rw[this,←HQ.out,e1];exact rfl
    have BK:=Lib.hid (fun w1 (hb:Below w.heap.size w w1)=>IK a n c ls w1 (HH.out.below hb (Nat.le_refl _)) HT.out (HS.out.below hb (Nat.le_refl _)) hc pE e1)
    have HX:=Lib.hid hx
    have EY:=Lib.hid hxk
    have hdi:id≠d:=fun e=>by subst e;rw[HY.out]at hx;cases hx;exact hk hxk
    have jf:=Lib.hid hdi
    have Ai:=Lib.hid (fun w2 (hb:Below w.heap.size w w2)=>Fh (HH.out.below hb (Nat.le_refl _)) hx hxk)
    have Wq:Hid ((Lit.int .i64 id).wf=true):=hok
    have hln:=(HT.out.each id y HY.out).links
    clear hk hp e1 hx hxk hn hmem hdi
    go_enter Tryz.func18,Tryz.ntmps18
    go_wp2_with fail
    (with_reducible refine HF.out.mono ?_)
    rintro e w1 ⟨rfl,hb1⟩
    have HB1:=Lib.hid hb1
    clear hb1
    go_wp2_with fail
    (with_reducible refine(sw.out w1 HB1.out).mono ?_)
    rintro e w2 ⟨rfl,rfl⟩
    obtain⟨c0,hmap,c1⟩:=HIT.out w1 HB1.out
    have oz:=Lib.hid hmap
    clear hmap
    go_wp2_with (first|(at_lookup;refine eF b_ rfl _ _ 94 92 rfl Tryz.underlying94 (Tryz.fI _) rfl oz.out id rfl hok ?_;rw[HG.out]))
    (with_reducible refine(BK.out w1 HB1.out).mono ?_)
    rintro e w2 ⟨rfl,hb2⟩
    have HB2:=Lib.hid (HB1.out.trans (hb2.mono HB1.out.size))
    clear hb2
    obtain⟨d7,jk⟩:=Ai.out w2 HB2.out
    have OT:=Lib.hid jk
    have HA2:=Lib.hid (HH.out.below HB2.out (Nat.le_refl _))
    clear jk
    have O5:Hid (∀w3,MapAt gF w3 (nb d) (bK nm (dP x))→w2.mapTurned w3 (nb d)→(aK g D w3 p mb ib nb (aU T d nm)∧Keeps (fun b=>g b≠ .none) w2 w3)∧aF id (aU T d nm)=some y∧w3.cell? ⟨ib id,2,none⟩=some (.int .i64 y.links)∧w3.frozen? ⟨ib id,2,none⟩=false):=fun w3 hM hTu=>by
     have h3:=O4 HA2.out HX.out EY.out hM hTu
     have hy3:aF id (aU T d nm)=some y:=by unfold aU;rw[bF,if_neg jf.out];exact HY.out
     exact⟨h3,hy3,(h3.1.item id y hy3).cell.2.2.1,(h3.1.item id y hy3).frozen 2⟩
    go_wp2_with (at_delete;refine wY gF rfl _ _ 107 3 rfl Tryz.underlying107 rfl OT.out nm rfl yT ?_;intro w3 Zx IL;obtain⟨hA3,hy3,g2,LP⟩:=O5.out w3 Zx IL;have MB:=Lib.hid hA3;have Ru:=Lib.hid hy3;clear hA3 Zx IL hy3)
    have hA3:=MB.out
    have hgi:=HH.out.mX id y HY.out
    have EZ:aK g D (w3.setCell ⟨ib id,2,none⟩ (.int .i64 (y.links-1))) p mb ib nb (aT id (fun x=>{x with links:=x.links-1}) (aU T d nm)):=
     hA3.1.fields Ru.out (fun x=>{x with links:=x.links-1}) rfl rfl rfl (Keeps.fE w3 ⟨ib id,2,none⟩ _) (by rw[size_set]) fun a c hc=>by rw[aL hc];rfl
    have hy4:aF id (aT id (fun x=>{x with links:=x.links-1}) (aU T d nm))=some {y with links:=y.links-1}:=by rw[bF,if_pos rfl,Ru.out];rfl
    have LM:Hid (Keeps (fun b=>g b≠ .none) w (w3.setCell ⟨ib id,2,none⟩ (.int .i64 (y.links-1)))):=
     ((fU HB2.out).trans hA3.2 (fun _ _ h=>h)).trans ((Keeps.fE w3 ⟨ib id,2,none⟩ _).mono fun b _ hb=>by rw[show b=ib id from hb,hgi];simp) (fun _ _ h=>h)
    have Ws:=Lib.hid (vD id hy4 Wq.out _ EZ)
    have HGM:=Lib.hid HH.out.iJ
    clear hA3 hgi EZ hy4
    (with_reducible refine Ws.out.mono ?_)
    rintro e w5 ⟨rfl,Zy,vJ,_⟩
    have HA5:=Lib.hid Zy
    have R6:=Lib.hid vJ
    clear Zy vJ
    go_wp2_with fail
    go_ret
    rw[HM.out]
    exact Turn.of rfl HA5.out (LM.out.trans (R6.out.mono fun b _ hb=>by rw[show b=mb from hb,HGM.out];simp) (fun _ _ h=>h))
  ·have hne:(e0==0)=false:=by simpa using he
   have hne2:(e0 !=0)=true:=by simpa using he
   have HM:Hid (bg T ls=(e0,T)):=by
    have:fT T ls=e0:=by
     unfold fT
     rw[BM.out,if_pos he]
    unfold bg;rw[this,if_neg he];exact rfl
   clear he
   go_enter Tryz.func18,Tryz.ntmps18
   go_wp2_with fail
   (with_reducible refine HF.out.mono ?_)
   rintro e w1 ⟨rfl,hb1⟩
   have HB1:=Lib.hid hb1
   clear hb1
   go_wp2_with fail
   (with_reducible refine(sw.out w1 HB1.out).mono ?_)
   rintro e w2 ⟨rfl,rfl⟩
   go_wp2_with fail
   go_ret
   rw[HM.out]
   exact Turn.same HH.out HB1.out rfl
 ·have HM:Hid (bg T ls=(bV ls,T)):=by
   have:fT T ls=bV ls:=by unfold fT kG;rw[if_pos hf,if_pos hf]
   unfold bg;rw[this,if_neg hf];exact rfl
  have hne:(bV ls==0)=false:=by simpa using hf
  have hne2:(bV ls !=0)=true:=by simpa using hf
  clear hf
  go_enter Tryz.func18,Tryz.ntmps18
  go_wp2_with fail
  (with_reducible refine HF.out.mono ?_)
  rintro e w1 ⟨rfl,hb1⟩
  go_wp2_with fail
  go_ret
  rw[HM.out]
  exact Turn.same HH.out hb1 rfl
end
section
variable {P:Program} {w:World} {ops:Array Oper} {rest:List Oper} {o:Oper} {a:Act} {Q:Exit→Act→World→Prop}
theorem sJ (hg:o.guard=none) (m:Operand) (t k e:TypeId) (hop:o.op=Op.range t m) (ht:P.underlying t=some (.map k e)) (hm:a.eval m= .map none)
  (h:wpList P ops Q rest (a.put o.dst (.pointer (some ⟨w.heap.size,0,none⟩))) (w.alloc (.mapIter none 0 #[] 0))):wpList P ops Q (o::rest) a w:=by
 refine wpList_plain hg fun K' hK'=> ?_
 have hrun:(Instr.range t (.map none)).run P w= .ok (.pointer (some ⟨w.heap.size,0,none⟩)) (w.alloc (.mapIter none 0 #[] 0)):=by
  simp[Instr.range,run_underlying ht,Result.andThen]
 unfold Oper.wp
 simp[execOp,hop,hm,hrun,Result.andThen]
 exact hK' _ _ h
theorem uz (hg:o.guard=none) (it:Operand) (hop:o.op=Op.next it false) {r:Nat} (hit:a.eval it= .pointer (some ⟨r,0,none⟩)) (hr:w.heap[r]? =some (.mapIter none 0 #[] 0))
  (h:wpList P ops Q rest (a.put o.dst (.tuple #[.bool false])) w):wpList P ops Q (o::rest) a w:=by
 refine wpList_plain hg fun K' hK'=> ?_
 have hrun:(Instr.next (.pointer (some ⟨r,0,none⟩)) false o.type).run P w= .ok (.tuple #[.bool false]) w:=by
  simp only[Instr.next,getObj,Sem.run_bind,Sem.run,hr,Result.andThen]
  rfl
 unfold Oper.wp
 simp[execOp,hop,hit,hrun,Result.andThen]
 exact hK' _ _ h
end
section
variable {g:Nat→Own} {D:Nat→Prop} {p mb:Nat} {ib nb:Int→Nat} {T:aI}
end
structure jo (T:aI) (dep:Int→Nat):Prop where
 zero:dep 0=0
 up:∀d x,aF d T=some x→∀e∈x.names,dep d<8∧(fG T e.2=2→dep e.2=dep d+1)
theorem Fp {T:aI} {id:Int} {x:bf} (hx:aF id T=some x):mJ T id=x.names:=by unfold mJ;rw[hx]
theorem yh {T:aI} {a d:Int} {n:Nm} {r:List Nm} (h:aY T a (n::r)=(d,0)):∃x k,aF a T=some x∧x.kind=2∧aF n x.names=some k∧aY T k r=(d,0):=by
 simp only[aY]at h
 cases hx:aF a T with
 |none=>rw[hx]at h;cases h
 |some x=>
  rw[hx]at h
  simp only at h
  by_cases hk:x.kind=2
  ·rw[if_pos hk]at h
   cases hn:aF n x.names with
   |none=>rw[hn]at h;cases h
   |some k=>rw[hn]at h;exact⟨x,k,rfl,hk,hn,h⟩
  ·rw[if_neg hk]at h;cases h
theorem Aw {T:aI} {dep:Int→Nat} (h:jo T dep):∀(p:List Nm) (a d:Int),aY T a p=(d,0)→fG T d=2→dep d=dep a+p.length
 |[],a,d,hl,_=>by
  have:a=d:=congrArg Prod.fst hl
  subst this;rfl
 |n::r,a,d,hl,hd=>by
  obtain⟨x,k,hx,hk,hn,hl⟩:=yh hl
  have hkk:fG T k=2:=by
   cases r with
   |nil=>
    have:k=d:=congrArg Prod.fst hl
    rw[this];exact hd
   |cons m s=>
    obtain⟨y,j,hy,hyk,_⟩:=yh hl
    rw[jl hy];exact hyk
  have h1:=(h.up a x hx _ (eD hn)).2 hkk
  have h2:=Aw h r k d hl hd
  simp only at h1
  rw[List.length_cons]
  omega
theorem Fq {T:aI} {d:Int} {f:bf→bf} (hf:∀x,(f x).kind=x.kind) (k:Int):fG (aT d f T) k=fG T k:=by
 unfold fG
 rw[bF]
 by_cases h:k=d
 ·rw[if_pos h]
  cases aF k T with
  |none=>rfl
  |some y=>exact hf y
 ·rw[if_neg h]
theorem Ct {T:aI} {tq:List Nm} {dt:Int} {nt:Nm} (hto:aV T tq=(dt,nt,0)):tq≠[]∧aY T 0 tq.dropLast=(dt,0)∧fG T dt=2:=by
 unfold aV at hto
 by_cases ht0:tq=[]
 ·rw[if_pos ht0]at hto;cases hto
 ·rw[if_neg ht0]at hto
  by_cases ht1:(aY T 0 tq.dropLast).2≠0
  ·rw[if_pos ht1]at hto
   exact absurd (congrArg (·.2.2) hto) ht1
  ·rw[if_neg ht1]at hto
   by_cases ht2:fG T (aY T 0 tq.dropLast).1=2
   ·rw[if_pos ht2]at hto
    have h3:(aY T 0 tq.dropLast).1=dt:=congrArg Prod.fst hto
    exact⟨ht0,Prod.ext h3 (by simpa using ht1),h3▸ht2⟩
   ·rw[if_neg ht2]at hto;cases hto
theorem jo.place {T:aI} {dep:Int→Nat} (h:jo T dep) {tq:List Nm} {dt:Int} {nt:Nm} (hto:aV T tq=(dt,nt,0)) (hf:tq.length≤8):dep dt<8:=by
 obtain⟨h1,h2,h3⟩:=Ct hto
 have:=Aw h _ 0 dt h2 h3
 rw[h.zero,List.length_dropLast]at this
 have:tq.length≠0:=fun e=>h1 (List.eq_nil_of_length_eq_zero e)
 omega
def Sub (T' T:aI):Prop:=∀d x,aF d T'=some x→∃y,aF d T=some y∧x.kind=y.kind∧∀e∈x.names,e∈y.names
theorem Sub.refl (T:aI):Sub T T:=fun d x h=>⟨x,h,rfl,fun _ he=>he⟩
theorem Sub.trans {A B C:aI} (h:Sub A B) (k:Sub B C):Sub A C:=fun d x hx=>by
 obtain⟨y,hy,h1,h2⟩:=h d x hx
 obtain⟨z,hz,h3,h4⟩:=k d y hy
 exact⟨z,hz,h1.trans h3,fun e he=>h4 e (h2 e he)⟩
theorem Sub.aT {T:aI} {k:Int} {f:bf→bf} (h1:∀x,(f x).kind=x.kind) (h2:∀x,∀e∈(f x).names,e∈x.names):Sub (Go.Proofs.YtohpcppeajijnaaGreat.aT k f T) T:=fun d x hx=>by
 rw[bF]at hx
 by_cases hd:d=k
 ·rw[if_pos hd]at hx
  cases hy:aF d T with
  |none=>rw[hy]at hx;cases hx
  |some y=>
   rw[hy]at hx
   simp only[Option.map_some,Option.some.injEq]at hx
   exact⟨y,rfl,by rw[←hx];exact h1 y,fun e he=>h2 y e (by rw[hx];exact he)⟩
 ·rw[if_neg hd]at hx;exact⟨x,hx,rfl,fun _ he=>he⟩
theorem Sub.del {T:aI} (k:Int):Sub (bK k T) T:=fun d x hx=>by
 rw[fF]at hx
 split at hx
 ·cases hx
 ·exact⟨x,hx,rfl,fun _ he=>he⟩
theorem Sub.settle {T:aI} (k:Int):Sub (eT T k) T:=by
 unfold eT
 cases aF k T with
 |none=>exact Sub.refl T
 |some x=>
  simp only
  split
  ·exact Sub.del k
  ·exact Sub.refl T
theorem Sub.cut {T:aI} (d:Int) (n:Nm):Sub (aU T d n) T:=Sub.aT (fun _=>by exact rfl) fun x e he=>(List.mem_filter.1 he).1
theorem jo.sub {T T':aI} {dep:Int→Nat} (h:jo T dep) (hs:Sub T' T):jo T' dep:=by
 refine⟨h.zero,fun d x hx e he=> ?_⟩
 obtain⟨y,hy,_,hn⟩:=hs d x hx
 have h1:=h.up d y hy e (hn e he)
 refine⟨h1.1,fun hk=>h1.2 ?_⟩
 obtain⟨z,hz,Wt⟩:=jE hk
 obtain⟨u,hu,huk,_⟩:=hs _ z hz
 rw[jl hu,←huk];exact Wt
theorem Cu {T:aI} {d id a:Int} {n:Nm} {x:bf} (h:aF a (setName T d n id)=some x):∃y,aF a T=some y∧x.kind=y.kind∧∀e∈x.names,e∈y.names∨(a=d∧e=(n,id)):=by
 unfold setName at h
 rw[bF]at h
 by_cases hd:a=d
 ·rw[if_pos hd]at h
  cases hz:aF a T with
  |none=>rw[hz]at h;cases h
  |some z=>
   rw[hz]at h
   simp only[Option.map_some,Option.some.injEq]at h
   refine⟨z,rfl,by rw[←h],fun e he=> ?_⟩
   rw[←h]at he
   rcases (mV bytesBefore).1 he with h2|h2
   ·exact .inr ⟨hd,h2⟩
   ·exact .inl (List.mem_filter.1 h2).1
 ·rw[if_neg hd]at h;exact⟨x,h,rfl,fun e he=> .inl he⟩
theorem IQ {T:aI} {d id:Int} {n:Nm} (k:Int):fG (setName T d n id) k=fG T k:=by
 unfold setName
 exact Fq (fun _=>by exact rfl) k
theorem jo.make {T:aI} {dep:Int→Nat} (h:jo T dep) (hT:dR T) {d f kind:Int} {n:Nm} (hd:dep d<8) (hf:aF f T=none) (hf0:f≠0) (hdt:(aF d T).isSome=true):∃Wu,jo (setName (bP gL f (aX kind) T) d n f) Wu:=by
 refine⟨fun k=>if k=f then dep d+1 else dep k,by simp only[if_neg (Ne.symm hf0),h.zero],fun a x hx e he=> ?_⟩
 have hdf:d≠f:=fun e=>by rw[e,hf]at hdt;cases hdt
 obtain⟨y,hy,_,hn⟩:=Cu hx
 rw[IQ]
 rcases ow hT.sorted hy with⟨h1,h2⟩|⟨h1,h2⟩
 ·rcases hn e he with h3|⟨h3,h4⟩
  ·rw[h2]at h3;cases h3
  ·exact absurd (h3.symm.trans h1) hdf
 ·rcases hn e he with h3|⟨h3,h4⟩
  ·have hup:=h.up a y h2 e h3
   have hl:=(hT.leads a y h2 e h3).1
   have hef:e.2≠f:=fun e5=>by rw[e5,hf]at hl;cases hl
   simp only[if_neg h1,if_neg hef]
   have:fG (bP gL f (aX kind) T) e.2=fG T e.2:=by unfold fG;rw[dV,if_neg hef]
   rw[this]
   exact hup
  ·subst h3 h4
   simp only[if_neg h1,if_pos]
   exact⟨hd,fun _=>trivial⟩
def mO (T:aI):Prop:=dR T∧∃dep,jo T dep
theorem mO.new:mO kr:=by
 refine⟨uO,fun _=>0,rfl,fun d x hx e he=> ?_⟩
 unfold kr at hx
 rw[eP]at hx
 by_cases hk:(0:Int)=d
 ·rw[if_pos hk]at hx
  cases hx
  cases he
 ·rw[if_neg hk]at hx;cases hx
theorem mO.dw {T:aI} (h:mO T) (ls:List Nm) (kind:Int):mO (dw T ls kind).2:=by
 obtain⟨h1,dep,h2⟩:=h
 refine⟨h1.dw ls kind,?_⟩
 unfold Go.Proofs.YtohpcppeajijnaaGreat.dw
 by_cases he:iA T ls kind=0
 ·rw[if_pos he]
  obtain⟨a1,a2,a3,a4,a5⟩:=vF h1 he
  obtain⟨x,hx,hk,hm⟩:=lT h1 a3
  obtain⟨f,hf,hf1,hf2,hfn,_⟩:=h1.free
  show ∃dep,jo (ou T ls kind) dep
  unfold ou
  rw[hf]
  exact h2.make h1 (h2.place (nt:=(aV T ls).2.1) (Prod.ext rfl (Prod.ext rfl a3)) (EX a1)) hfn (by omega) (by rw[hx];rfl)
 ·rw[if_neg he];exact⟨dep,h2⟩
theorem mO.bg {T:aI} (h:mO T) (p:List Nm):mO (bg T p).2:=by
 obtain⟨h1,dep,h2⟩:=h
 refine⟨h1.bg p,dep,?_⟩
 unfold Go.Proofs.YtohpcppeajijnaaGreat.bg
 simp only
 split
 ·unfold mW
  exact h2.sub ((Sub.settle _).trans ((Sub.aT (f:=fun x=>{x with links:=x.links-1}) (fun _=>by exact rfl) fun x e he=>he).trans (Sub.cut _ _)))
 ·exact h2
theorem mO.bI {T:aI} (h:mO T) (id:Int) (b:List UInt8):mO (bI T id b).2:=by
 obtain⟨h1,dep,h2⟩:=h
 refine⟨h1.bI id b,dep,?_⟩
 unfold Go.Proofs.YtohpcppeajijnaaGreat.bI
 simp only
 split
 ·exact h2.sub (Sub.aT (fun _=>by exact rfl) fun x e he=>he)
 ·exact h2
theorem mO.dZ {T:aI} (h:mO T) (id aS:Int) (h0:0≤aS):mO (dZ T id aS).2:=by
 obtain⟨h1,dep,h2⟩:=h
 refine⟨h1.dZ id aS h0,dep,?_⟩
 unfold Go.Proofs.YtohpcppeajijnaaGreat.dZ
 simp only
 split
 ·exact h2.sub ((Sub.settle _).trans (Sub.aT (fun _=>by exact rfl) fun x e he=>he))
 ·exact h2
def dW (T:aI) (id:Int):aI:=T.map fun q=>(q.1,{q.2 with names:=q.2.names.filter fun e=> !decide (e.2=id)})
theorem yj (T:aI) (id:Int):rW T id=bK id (dW T id):=rfl
def eG (id:Int) (x:bf):bf:={x with names:=x.names.filter fun e=> !decide (e.2=id)}
theorem jI (T:aI) (id k:Int):aF k (dW T id)=(aF k T).map (eG id):=z_ (eG id) k T
theorem IU (id j:Int) (x:bf):cn j (eG id x)=if j=id then 0 else cn j x:=by
 unfold cn eG
 simp only
 rw[List.countP_filter]
 by_cases h:j=id
 ·subst h
  rw[if_pos rfl,List.countP_eq_zero]
  intro e _
  simp
 ·rw[if_neg h]
  apply List.countP_congr
  intro e _
  simp only[Bool.and_eq_true,decide_eq_true_eq,Bool.not_eq_true',decide_eq_false_iff_not]
  exact⟨fun h1=>h1.1,fun h1=>⟨h1,fun h2=>h (h1.symm.trans h2)⟩⟩
theorem vK (T:aI) (id j:Int):fZ (dW T id) j=if j=id then 0 else fZ T j:=by
 induction T with
 |nil=>simp[fZ,dW]
 |cons y r ih=>
  have e1:fZ (dW (y::r) id) j=cn j (eG id y.2)+fZ (dW r id) j:=by
   unfold fZ dW eG;simp
  have e2:fZ (y::r) j=cn j y.2+fZ r j:=by unfold fZ;simp
  rw[e1,e2,ih,IU]
  split<;>simp
theorem uK.strip {T:aI} (h:uK T) (id:Int):uK (dW T id):=by
 have hget:∀k x,aF k (dW T id)=some x→∃y,aF k T=some y∧x=eG id y:=fun k x hx=>by
  rw[jI]at hx
  cases hy:aF k T with
  |none=>rw[hy]at hx;cases hx
  |some y=>
   rw[hy]at hx
   simp only[Option.map_some,Option.some.injEq]at hx
   exact⟨y,rfl,hx.symm⟩
 refine⟨?_,?_,fun k x hx=> ?_,fun k x hx e he=> ?_,by unfold dW;rw[List.length_map];exact h.len,fun k x hx=> ?_⟩
 ·have:=h.sorted
  unfold aJ dW at*
  rw[List.pairwise_map]
  exact this
 ·obtain⟨x,hx,hk⟩:=jE h.root
  unfold fG
  rw[jI,hx]
  exact hk
 ·obtain⟨y,hy,rfl⟩:=hget k x hx
  have o:=h.each k y hy
  refine⟨o.kind,fun h1=> ?_,o.dir,o.gone,?_,fun e he=>o.good e (List.mem_filter.1 he).1,o.size,o.links,o.aS⟩
  ·unfold eG
   simp only
   rw[o.file h1];rfl
  ·exact List.Pairwise.filter _ o.sorted
 ·obtain⟨y,hy,rfl⟩:=hget k x hx
  have:=h.leads k y hy e (List.mem_filter.1 he).1
  refine⟨?_,this.2⟩
  rw[jI]
  obtain⟨z,hz⟩:=Option.isSome_iff_exists.1 this.1
  rw[hz];rfl
 ·obtain⟨y,hy,rfl⟩:=hget k x hx
  exact h.ids k y hy
theorem vL {T:aI} {id:Int} (h:gu T id=0):∃x,aF id T=some x∧x.kind≠2∧x.closed=false:=by
 unfold gu at h
 cases hx:aF id T with
 |none=>rw[hx]at h;cases h
 |some x=>
  rw[hx]at h
  simp only at h
  by_cases hk:x.kind=2
  ·rw[if_pos hk]at h;cases h
  ·rw[if_neg hk]at h
   cases hc:x.closed with
   |true=>rw[hc]at h;cases h
   |false=>exact⟨x,rfl,hk,hc⟩
theorem dR.eu {T:aI} (h:dR T) (id:Int):dR (eu T id).2:=by
 unfold Go.Proofs.YtohpcppeajijnaaGreat.eu
 by_cases he:gu T id=0
 ·simp only[if_pos he]
  obtain⟨x,hx,hk,_⟩:=vL he
  have h0:=h.qW hx hk
  have hnil:=(h.each id x hx).file ((h.each id x hx).kind.resolve_right hk)
  have hS:=h.touK.strip id
  have hx':aF id (dW T id)=some (eG id x):=by rw[jI,hx];rfl
  have hn':(eG id x).names=[]:=by unfold eG;simp only;rw[hnil];rfl
  rw[yj]
  refine⟨hS.del hx' h0 (by rw[vK,if_pos rfl]),fun j y hy hj=> ?_⟩
  have hji:j≠id:=fun e=>by subst e;rw[kZ]at hy;cases hy
  rw[fF,if_neg hji,jI]at hy
  cases hz:aF j T with
  |none=>rw[hz]at hy;cases hy
  |some z=>
   rw[hz]at hy
   simp only[Option.map_some,Option.some.injEq]at hy
   have h1:=r_ hS.sorted hx' j
   have h2:cn j (eG id x)=0:=by unfold cn;rw[hn'];rfl
   have h3:=vK T id j
   rw[if_neg hji]at h3
   have h4:=h.counts j z hz hj
   have h5:y.links=z.links:=by rw[←hy];rfl
   omega
 ·simp only[if_neg he];exact h
end Go.Proofs.YtohpcppeajijnaaGreat
