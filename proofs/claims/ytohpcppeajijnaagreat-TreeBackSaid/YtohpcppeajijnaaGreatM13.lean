/- tree: New; Drop refused. tree: Link. A law's own tree, beside what else is the law's. -/
import Derived.Test.YtohpcppeajijnaaGreatM12
namespace Go.Proofs.YtohpcppeajijnaaGreat
open Go.ChangeShapes Go.WideShapes Go.ChangeAt Go.RowKit
set_option linter.unusedVariables false
set_option linter.unusedSimpArgs false
def newG (B b:Nat):Own:=if b=B then .items else if b=B+1 then .item 0 else if b=B+2 then .names 0 else .none
theorem Kc {w w1 w2:World} (hi:iG (fun _=>False) w1 0 (w.heap.size+1) (w.heap.size+1+1) (bE 2)) (hb:Below (w.heap.size+1) (w.alloc (.map #[] 0)) w1) (hs:w.heap.size+1+1<w1.heap.size)
  (hM:MapAt aW w2 w.heap.size (bT aW.lt 0 (ptr (w.heap.size+1)) [])) (hT:w1.mapTurned w2 w.heap.size):
  aJ (fun b=>if b=w2.heap.size then .head else newG w.heap.size b) (fun _=>False) (w2.alloc (.cells #[.map (some w.heap.size)] 96)) w2.heap.size w.heap.size (fun _=>w.heap.size+1) (fun _=>w.heap.size+2) kV∧Below w.heap.size w (w2.alloc (.cells #[.map (some w.heap.size)] 96)):=by
 have hsz:=iq hT
 have hK:=fK hT
 have hw3:∀b,b<w2.heap.size→(w2.alloc (.cells #[.map (some w.heap.size)] 96)).heap[b]? =w2.heap[b]? :=fun b hb=>Below.heap_alloc _ _ _ hb
 have hget:∀k x,aj k kV=some x→k=0∧x=bE 2:=fun k x h=>by
  unfold kV at h
  rw[eX]at h
  by_cases hk:(0:Int)=k
  ·rw[if_pos hk]at h;exact⟨hk.symm,by cases h;rfl⟩
  ·rw[if_neg hk]at h;cases h
 have hB0:Below w.heap.size w (w.alloc (.map #[] 0)):=wall w _
 constructor
 ·refine⟨(MapKept.heap_alloc w2 _).1,?_,fun k x hx=> ?_,by simp,?_,fun k x hx=> ?_,fun k x hx _=> ?_,fun _ h=>h.elim,fun b hb=> ?_,fun _ h=>h.elim⟩
  ·have:=hM.kept (hw3 _ (by omega))
   exact this
  ·obtain⟨rfl,rfl⟩:=hget k x hx
   refine hi.move (by simp;omega) ?_ (fun _=> ?_) (fun _ h=>h.elim)
   ·rw[hw3 _ (by omega),hK.block _ (by omega) (by omega)]
   ·rw[hw3 _ (by omega),hK.block _ (by omega) (by omega)]
  ·rw[if_neg (by omega)];simp[newG]
  ·obtain⟨rfl,rfl⟩:=hget k x hx
   rw[if_neg (by omega)];simp[newG]
  ·obtain⟨rfl,rfl⟩:=hget k x hx
   rw[if_neg (by omega)];simp[newG]
  ·rw[World.size_alloc]
   by_cases h1:b=w2.heap.size
   ·omega
   ·rw[if_neg h1]at hb
    unfold newG at hb
    by_cases h2:b=w.heap.size
    ·omega
    ·by_cases h3:b=w.heap.size+1
     ·omega
     ·by_cases h4:b=w.heap.size+2
      ·omega
      ·simp[h2,h3,h4]at hb
 ·refine(hB0.trans (hb.mono (by omega))).trans ⟨hK.os,hK.tape,hK.output,by rw[World.size_alloc];omega,fun b hbw=> ?_⟩
  have:=hb.size
  rw[World.size_alloc]at this
  rw[hw3 _ (by omega),hK.block _ (by omega) (by omega)]
set_option maxHeartbeats 1000000 in
theorem Ke (w:World):Calls Tryz.prog 10 #[] w fun e w'=>∃g mb ib nb p,e= .returned (ptr p)∧aJ g (fun _=>False) w' p mb ib nb kV∧(∀b,g b≠ .none→w.heap.size≤b)∧Below w.heap.size w w':=by
 have hmm:= @run_makeMap Tryz.prog
 have HST:Hid (∀w1,Below (w.heap.size+1) (w.alloc (.map #[] 0)) w1→∃w2,(Instr.mapUpdate 94 (.map (some w.heap.size)) (.int .i64 0) (ptr (w.heap.size+1))).run Tryz.prog w1= .ok () w2∧MapAt aW w2 w.heap.size (bT aW.lt 0 (ptr (w.heap.size+1)) [])∧w1.mapTurned w2 w.heap.size):=fun w1 hb=>by
  have hm1:MapAt aW w1 w.heap.size []:=(MapAt.made (F:=aW) w).kept (hb.block _ (by omega))
  exact hm1.ql aW Tryz.underlying94 (by show 0<maxLen;unfold maxLen;omega) 0 _ (l6 (by omega) (by omega))
 go_enter Tryz.func10,Tryz.ntmps10
 go_wp2_with fail
 (with_reducible refine(tX _ _ _).mono ?_)
 rintro e w1 ⟨rfl,hi1,hb1,hs1,hs2⟩
 rw[World.size_alloc]at hi1 hb1 hs1 hs2
 obtain⟨w2,U8,hM2,Kg⟩:=HST.out w1 hb1
 have HI1:=Lib.hid hi1
 have HB1:=Lib.hid hb1
 have zW:=Lib.hid hM2
 have HT2:=Lib.hid Kg
 have hs3:=hs2 rfl
 clear hi1 hb1 hM2 Kg hs2
 go_wp2_with fail
 go_ret
 obtain⟨h1,h2⟩:=Kc HI1.out HB1.out hs3 zW.out HT2.out
 refine⟨_,_,_,_,_,rfl,h1,fun b hb=> ?_,h2⟩
 have h3:=HB1.out.size
 rw[World.size_alloc]at h3
 have h4:=iq HT2.out
 by_cases e1:b=w2.heap.size
 ·omega
 ·rw[if_neg e1]at hb
  unfold newG at hb
  by_cases e2:b=w.heap.size
  ·omega
  ·by_cases e3:b=w.heap.size+1
   ·omega
   ·by_cases e4:b=w.heap.size+2
    ·omega
    ·simp[e2,e3,e4]at hb
theorem Er:dG kV:=by
 have hget:∀k x,aj k kV=some x→k=0∧x=bE 2:=fun k x h=>by
  unfold kV at h
  rw[eX]at h
  by_cases hk:(0:Int)=k
  ·rw[if_pos hk]at h;exact⟨hk.symm,by cases h;rfl⟩
  ·rw[if_neg hk]at h;cases h
 refine⟨⟨by simp[kV,aI],rfl,fun k x hx=> ?_,fun k x hx e he=> ?_,by simp[kV],fun k x hx=> ?_⟩,fun k x hx hk=> ?_⟩
 ·obtain⟨rfl,rfl⟩:=hget k x hx;exact yE (.inr rfl)
 ·obtain⟨rfl,rfl⟩:=hget k x hx;cases he
 ·obtain⟨rfl,rfl⟩:=hget k x hx;omega
 ·exact absurd (hget k x hx).1 hk
section
variable {g:Nat→Own} {D:Nat→Prop} {p mb:Nat} {ib nb:Int→Nat} {T:aF}
set_option maxHeartbeats 1000000 in
theorem H8 (id:Int) (hd:kS T id≠0) (w:World) (h:aJ g D w p mb ib nb T) (hid:(Lit.int .i64 id).wf=true):
  Calls Tryz.prog 29 #[ptr p, .int .i64 id] w (Turn g D w p mb (dM T id).2 (.int .i64 (dM T id).1)):=by
 have HH:=Lib.hid h
 have hcb:(w.alloc (.cells #[.int .i64 id] 3)).cell? ⟨w.heap.size,0,none⟩=some (.int .i64 id):=nX
 have hA:=h.below (wall w (.cells #[.int .i64 id] 3)) (Nat.le_refl _)
 by_cases hf:bL T id=0
 ·obtain⟨x,hx,hk⟩:=l9 hf
  have HF:=Lib.hid (qp id hx hk _ hA hid)
  obtain⟨c0,c1,c2,c3,c4,c5,c7,hiw⟩:=(h.item id x hx).cell
  have hE:kS T id=if x.closed then 27 else 0:=by unfold kS;rw[hx];simp only[if_neg hk]
  cases hcl:x.closed with
  |false=>exact absurd (by rw[hE,hcl];rfl) hd
  |true=>
   have HM:Hid (dM T id=(27,T)):=by
    unfold dM
    rw[hE,hcl];simp only[if_pos];exact rfl
   rw[hcl]at c5
   clear hE hcl hx hk hf h c7 hA hd
   go_enter Tryz.func29,Tryz.ntmps29
   go_wp2_with fail
   (with_reducible refine HF.out.mono ?_)
   rintro e w1 ⟨rfl,rfl⟩
   go_wp2_with fail
   go_ret
   rw[HM.out]
   exact Turn.same HH.out (wall w _) rfl
 ·have hne:(bL T id==0)=false:=by simpa using hf
  have HF:=Lib.hid (pO id _ rfl hf _ hA hid)
  have HM:Hid (dM T id=(bL T id,T)):=by
   unfold dM
   rw[Fq hf,if_neg hf];exact rfl
  obtain⟨k,hk⟩:∃k,k=bL T id:=⟨_,rfl⟩
  rw[←hk]at HF hne HM
  clear hf h hk hA hd
  go_enter Tryz.func29,Tryz.ntmps29
  go_wp2_with fail
  (with_reducible refine HF.out.mono ?_)
  rintro e w1 ⟨rfl,rfl⟩
  go_wp2_with fail
  go_ret
  rw[HM.out]
  exact Turn.same HH.out (wall w _) rfl
end
section
variable {g:Nat→Own} {D:Nat→Prop} {p mb:Nat} {ib nb:Int→Nat} {T:aF}
theorem bI {id:Int} {x:bF} (hx:aj id T=some x):bq T id=x.kind:=by unfold bq;rw[hx]
theorem dG.link (h:dG T) {d id:Int} {x y:bF} {n:Nm} (hx:aj d T=some x) (hxk:x.kind=2) (hn:bZ n=true) (hnn:aj n x.names=none) (hy:aj id T=some y) (hyk:y.kind≠2) (hl:y.links<64) (h0:id≠0):
  dG (Go.Proofs.YtohpcppeajijnaaGreat.aX id (fun x=>{x with links:=x.links+1}) (setName T d n id)):=by
 have hdi:id≠d:=fun e=>by subst e;rw[hx]at hy;cases hy;exact hyk hxk
 have hP:=h.tovw.set (n:=n) (id:=id) hx hxk hn ⟨by rw[hy];rfl,h0⟩
 have hy1:aj id (setName T d n id)=some y:=by unfold setName;rw[aQ,if_neg hdi];exact hy
 have hoy:=h.each id y hy
 have hk1:y.kind=1:=hoy.kind.resolve_right hyk
 have hsame:cn id {y with links:=y.links+1}=cn id y:=rfl
 refine⟨hP.aX (f:=fun x=>{x with links:=x.links+1}) hy1 ⟨hoy.kind,hoy.file,fun h=>absurd h hyk,fun h=> ?_,hoy.sorted,hoy.good,hoy.size,?_,hoy.aK⟩ rfl (hP.leads id y hy1),fun j z hz hj=> ?_⟩
 ·have:=hoy.links
  have h2:y.links+1=0:=h
  omega
 ·have:=hoy.links
  simp only
  omega
 ·have h1:=jX hP.sorted (fun x=>{x with links:=x.links+1}) hy1 j
  have h1':cn j {y with links:=y.links+1}=cn j y:=rfl
  have h2:=jX h.sorted (fun x=>{x with names:=bT bytesBefore n id x.names}) hx j
  have h3:=CW (id:=id) hnn j
  have e:fq (Go.Proofs.YtohpcppeajijnaaGreat.aX id (fun x=>{x with links:=x.links+1}) (setName T d n id)) j=fq T j+if id=j then 1 else 0:=by
   unfold setName at h1⊢
   rw[h1']at h1
   omega
  rw[e]
  rw[aQ]at hz
  by_cases hji:j=id
  ·subst hji
   rw[if_pos rfl,hy1]at hz
   simp only[Option.map_some,Option.some.injEq]at hz
   rw[←hz,if_pos rfl]
   have:=h.counts j y hy hj
   simp only
   omega
  ·rw[if_neg hji]at hz
   rw[if_neg (Ne.symm hji)]
   unfold setName at hz
   rw[aQ]at hz
   by_cases hjd:j=d
   ·subst hjd
    rw[if_pos rfl,hx]at hz
    simp only[Option.map_some,Option.some.injEq]at hz
    have:=h.counts j x hx hj
    rw[←hz]
    simp only
    omega
   ·rw[if_neg hjd]at hz
    have:=h.counts j z hz hj
    omega
theorem og {p:List Nm} {id:Int} (h:aC T 0 p=(id,0)) (hT:dG T):(aj id T).isSome=true:=by
 have:=fA hT p 0 (dU hT) (by rw[h])
 rw[h]at this
 exact this
set_option maxRecDepth 100000 in
set_option maxHeartbeats 8000000 in
theorem Es {S S':Nat→Prop} (a:Option Addr) (n c:Nat) (ls:List Nm) (a':Option Addr) (n' c':Nat) (ls':List Nm) (w:World) (h:aJ g D w p mb ib nb T) (hT:dG T) (hS:aH S w a n (ls.map strOf)) (hS':aH S' w a' n' (ls'.map strOf)) (hc':n'≤c') (jS:n'≤1000000):
  Calls Tryz.prog 16 #[ptr p, .slice a n c, .slice a' n' c'] w (Turn g D w p mb (dz T ls ls').2 (.int .i64 (dz T ls ls').1)):=by
 have HH:=Lib.hid h
 have HT:=Lib.hid hT
 have HF:=Lib.hid (AZ a n c ls a' n' c' ls' w hS hS')
 have kW:=Lib.hid (fun w1 (hb:Below w.heap.size w w1)=>nA a n c ls w1 (h.below hb (Nat.le_refl _)) hT (hS.below hb (Nat.le_refl _)))
 have qK:=Lib.hid (fun w1 (hb:Below w.heap.size w w1)=>qm a' n' c' ls' w1 (h.below hb (Nat.le_refl _)) hT (hS'.below hb (Nat.le_refl _)) hc' jS)
 clear h hT hS hS'
 by_cases hf:iw ls ls'=0
 ·have vX:=Lib.hid hf
  rw[hf]at HF
  clear hf
  obtain⟨⟨id,e0⟩,hq⟩:∃q,q=aC T 0 ls:=⟨_,rfl⟩
  have HQ:=Lib.hid hq
  rw[←hq]at kW
  clear hq
  by_cases he:e0=0
  ·subst he
   obtain⟨y,hy⟩:=Option.isSome_iff_exists.1 (og HQ.out.symm HT.out)
   have HY:=Lib.hid hy
   have l7:=HT.out.ids id y hy
   have hok:aW.ok id:=l6 l7.1 (by omega)
   have HG:Hid (aj id (T.map fun q=>(q.1,ptr (ib q.1)))=some (ptr (ib id))):=by rw[dw,hy];rfl
   have HIT:Hid (∀w1,Below w.heap.size w w1→w1.cell? ⟨p,0,none⟩=some (.map (some mb))∧MapAt aW w1 mb (T.map fun q=>(q.1,ptr (ib q.1)))∧w1.cell? ⟨ib id,1,none⟩=some (.int .i64 y.kind)∧w1.cell? ⟨ib id,2,none⟩=some (.int .i64 y.links)):=fun w1 hb=>by
    have h2:=HH.out.below hb (Nat.le_refl _)
    obtain⟨_,c1,c2,_⟩:=(h2.item id y HY.out).cell
    exact⟨h2.cell.1,h2.map,c1,c2⟩
   clear hy
   by_cases hk:y.kind=2
   ·have HM:Hid (dz T ls ls'=(22,T)):=by
     have:jC T ls ls'=22:=by
      unfold jC
      rw[if_neg (by rw[vX.out];simp),←HQ.out,if_neg (by simp),if_pos ((bI HY.out).trans hk)]
     unfold dz;rw[this,if_neg (by decide)];exact rfl
    go_enter Tryz.func16,Tryz.ntmps16
    go_wp2_with fail
    (with_reducible refine HF.out.mono ?_)
    rintro e w1 ⟨rfl,hb1⟩
    have HB1:=Lib.hid hb1
    clear hb1
    go_wp2_with fail
    (with_reducible refine(kW.out w1 HB1.out).mono ?_)
    rintro e w2 ⟨rfl,rfl⟩
    obtain⟨c0,hmap,c1,c2⟩:=HIT.out w1 HB1.out
    rw[hk]at c1
    have fM:=Lib.hid hmap
    clear hmap
    go_wp2_with (first|(at_lookup;refine aL aW rfl _ _ 94 92 rfl Tryz.underlying94 (Tryz.aU _) rfl fM.out id rfl hok ?_;rw[HG.out]))
    go_ret
    rw[HM.out]
    exact Turn.same HH.out HB1.out rfl
   ·have hkk:(y.kind==2)=false:=by simpa using hk
    by_cases hp:(aB T ls').2.2=0
    ·obtain⟨x,hx,hxk,hnm⟩:=fQ HT.out hp
     have hgn:bZ (aB T ls').2.1=true:=by
      have:bM ls'=0:=by
       have:=vX.out
       unfold iw at this
       split at this
       ·rename_i h1;exact absurd this h1
       ·exact this
      exact gW this _ hnm
     obtain⟨⟨d,nm,z⟩,hq⟩:∃q,q=aB T ls':=⟨_,rfl⟩
     unfold l8 at qK
     rw[←hq]at hp hx hnm hgn qK
     obtain rfl:z=0:=hp
     have H9:=Lib.hid hq
     have HX:=Lib.hid hx
     have AX:=Lib.hid hgn
     have x9:=Lib.hid hxk
     have M_:=Lib.hid hk
     clear hq hx hgn hxk hnm hk
     have jN:cK.ok nm:=by
      have:=nC nm AX.out
      show nm.length≤maxLen
      unfold maxLen;omega
     have Fh:Hid (jC T ls ls'=if (aj nm x.names).isSome then 21 else if 64≤y.links then 4 else 0):=by
      have e1:aO T d=x.names:=by unfold aO;rw[HX.out]
      have e2:nU T id=y.links:=by unfold nU;rw[HY.out]
      unfold jC
      rw[if_neg (by rw[vX.out];simp),←HQ.out,if_neg (by simp),if_neg (by rw[bI HY.out];exact M_.out),←H9.out,if_neg (by simp),e1,e2]
      exact rfl
     have jf:Hid (∀w2,Below w.heap.size w w2→w2.cell? ⟨ib d,7,none⟩=some (.map (some (nb d)))∧MapAt cK w2 (nb d) (bO x)):=fun w2 hb=>by
      have h2:=HH.out.below hb (Nat.le_refl _)
      have hi:=h2.item d x HX.out
      obtain⟨_,_,_,_,_,_,c7,_⟩:=hi.cell
      unfold fJ at c7
      rw[if_pos x9.out]at c7
      exact⟨c7,hi.names x9.out⟩
     cases hj:aj nm x.names with
     |some j=>
      have qo:Hid (aj nm (bO x)=some (.int .i64 j)):=by rw[dI,hj];rfl
      have HM:Hid (dz T ls ls'=(21,T)):=by
       unfold dz;rw[Fh.out,hj];simp only[Option.isSome_some,if_true];exact rfl
      clear hj
      go_enter Tryz.func16,Tryz.ntmps16
      go_wp2_with fail
      (with_reducible refine HF.out.mono ?_)
      rintro e w1 ⟨rfl,hb1⟩
      have HB1:=Lib.hid hb1
      clear hb1
      go_wp2_with fail
      (with_reducible refine(kW.out w1 HB1.out).mono ?_)
      rintro e w2 ⟨rfl,rfl⟩
      obtain⟨c0,hmap,c1,c2⟩:=HIT.out w1 HB1.out
      have fM:=Lib.hid hmap
      clear hmap
      go_wp2_with (first|(at_lookup;refine aL aW rfl _ _ 94 92 rfl Tryz.underlying94 (Tryz.aU _) rfl fM.out id rfl hok ?_;rw[HG.out]))
      (with_reducible refine(qK.out w1 HB1.out).mono ?_)
      rintro e w2 ⟨rfl,hb2⟩
      (first|rw[if_pos rfl]|rw[if_pos trivial])
      have HB2:=Lib.hid (HB1.out.trans (hb2.mono HB1.out.size))
      clear hb2
      obtain⟨d7,eD⟩:=jf.out w2 HB2.out
      have lM:=Lib.hid eD
      clear eD
      go_wp2_with (at_lookup;refine aG cK rfl _ _ 107 3 rfl Tryz.underlying107 (Tryz.dP _) rfl lM.out nm rfl jN ?_;rw[qo.out])
      go_ret
      rw[HM.out]
      exact Turn.same HH.out HB2.out rfl
     |none=>
      have qo:Hid (aj nm (bO x)=none):=by rw[dI,hj];rfl
      have HJ:=Lib.hid hj
      clear hj
      by_cases h64:64≤y.links
      ·have HM:Hid (dz T ls ls'=(4,T)):=by
        unfold dz;rw[Fh.out,HJ.out];simp only[Option.isSome_none,Bool.false_eq_true,if_false,if_pos h64];first|exact rfl|exact trivial
       have hd:decide ((64:Int)≤y.links)=true:=by simpa using h64
       go_enter Tryz.func16,Tryz.ntmps16
       go_wp2_with fail
       (with_reducible refine HF.out.mono ?_)
       rintro e w1 ⟨rfl,hb1⟩
       have HB1:=Lib.hid hb1
       clear hb1
       go_wp2_with fail
       (with_reducible refine(kW.out w1 HB1.out).mono ?_)
       rintro e w2 ⟨rfl,rfl⟩
       obtain⟨c0,hmap,c1,c2⟩:=HIT.out w1 HB1.out
       have fM:=Lib.hid hmap
       clear hmap
       go_wp2_with (first|(at_lookup;refine aL aW rfl _ _ 94 92 rfl Tryz.underlying94 (Tryz.aU _) rfl fM.out id rfl hok ?_;rw[HG.out]))
       (with_reducible refine(qK.out w1 HB1.out).mono ?_)
       rintro e w2 ⟨rfl,hb2⟩
       (first|rw[if_pos rfl]|rw[if_pos trivial])
       have HB2:=Lib.hid (HB1.out.trans (hb2.mono HB1.out.size))
       clear hb2
       obtain⟨d7,eD⟩:=jf.out w2 HB2.out
       obtain⟨_,_,_,f2⟩:=HIT.out w2 HB2.out
       have lM:=Lib.hid eD
       clear eD
       go_wp2_with (at_lookup;refine aG cK rfl _ _ 107 3 rfl Tryz.underlying107 (Tryz.dP _) rfl lM.out nm rfl jN ?_;rw[qo.out])
       go_ret
       rw[HM.out]
       exact Turn.same HH.out HB2.out rfl
      ·have HM:Hid (dz T ls ls'=(0,aX id (fun x=>{x with links:=x.links+1}) (setName T d nm id))):=by
        unfold dz vS;rw[Fh.out,HJ.out,←H9.out,←HQ.out];simp only[Option.isSome_none,Bool.false_eq_true,if_false,if_neg h64,if_pos];first|exact rfl|exact trivial
       have hd:decide ((64:Int)≤y.links)=false:=by simpa using h64
       have hln:=(HT.out.each id y HY.out).links
       have hdi:id≠d:=fun e=>by have h1:=HX.out;rw[←e,HY.out]at h1;cases h1;exact M_.out x9.out
       have Rp:=Lib.hid hdi
       have rZ:(bO x).length<maxLen:=by
        have h1:=HT.out.few HX.out
        unfold bO maxLen;rw[List.length_map];omega
       have M7:=Lib.hid rZ
       clear hdi rZ
       go_enter Tryz.func16,Tryz.ntmps16
       go_wp2_with fail
       (with_reducible refine HF.out.mono ?_)
       rintro e w1 ⟨rfl,hb1⟩
       have HB1:=Lib.hid hb1
       clear hb1
       go_wp2_with fail
       (with_reducible refine(kW.out w1 HB1.out).mono ?_)
       rintro e w2 ⟨rfl,rfl⟩
       obtain⟨c0,hmap,c1,c2⟩:=HIT.out w1 HB1.out
       have fM:=Lib.hid hmap
       clear hmap
       go_wp2_with (first|(at_lookup;refine aL aW rfl _ _ 94 92 rfl Tryz.underlying94 (Tryz.aU _) rfl fM.out id rfl hok ?_;rw[HG.out]))
       (with_reducible refine(qK.out w1 HB1.out).mono ?_)
       rintro e w2 ⟨rfl,hb2⟩
       (first|rw[if_pos rfl]|rw[if_pos trivial])
       have HB2:=Lib.hid (HB1.out.trans (hb2.mono HB1.out.size))
       clear hb2
       obtain⟨d7,eD⟩:=jf.out w2 HB2.out
       obtain⟨_,_,_,f2⟩:=HIT.out w2 HB2.out
       have lM:=Lib.hid eD
       have HA2:=Lib.hid (HH.out.below HB2.out (Nat.le_refl _))
       have Na:Hid (∀w3,MapAt cK w3 (nb d) (bT cK.lt nm (.int .i64 id) (bO x))→w2.mapTurned w3 (nb d)→aJ g D w3 p mb ib nb (setName T d nm id)∧w3.cell? ⟨ib id,2,none⟩=some (.int .i64 y.links)∧w3.frozen? ⟨ib id,2,none⟩=false∧aj id (setName T d nm id)=some y):=fun w3 hM Kh=>by
        have h3:=HA2.out.set (id:=id) HX.out x9.out hM Kh
        have hy3:aj id (setName T d nm id)=some y:=by unfold setName;rw[aQ,if_neg Rp.out];exact HY.out
        exact⟨h3,(h3.item id y hy3).cell.2.2.1,(h3.item id y hy3).frozen 2,hy3⟩
       clear eD
       go_wp2_with (first|(at_lookup;refine aG cK rfl _ _ 107 3 rfl Tryz.underlying107 (Tryz.dP _) rfl lM.out nm rfl jN ?_;rw[qo.out])|(at_mapUpdate;refine gH cK rfl _ _ _ 107 3 rfl Tryz.underlying107 rfl lM.out M7.out nm (.int .i64 id) rfl rfl jN ?_;intro w5 M8 Hr;obtain⟨Ay,g2,GN,U9⟩:=Na.out w5 M8 Hr;have Nb:=Lib.hid Ay;have WJ:=Lib.hid U9;have yO:=Lib.hid Hr;clear Ay M8 Hr U9))
       go_ret
       rw[HM.out]
       have Ay:=Nb.out
       have hgi:=HH.out.l5 id y HY.out
       have hgd:=HH.out.kI d x HX.out x9.out
       refine Turn.of rfl (Ay.fields WJ.out (fun x=>{x with links:=x.links+1}) rfl rfl rfl (Keeps.iC w5 ⟨ib id,2,none⟩ _) (by rw[size_set]) fun a c hc=>by rw[bY hc];rfl) ?_
       have k1:Keeps (fun b=>g b≠ .none) w w2:=(Keeps.below HB2.out).mono fun b hb hb'=>absurd hb (by omega)
       have k2:Keeps (fun b=>g b≠ .none) w2 w5:=(fK yO.out).mono fun b _ hb=>by rw[show b=nb d from hb,hgd];simp
       have k3:Keeps (fun b=>g b≠ .none) w5 (w5.setCell ⟨ib id,2,none⟩ (.int .i64 (y.links+1))):=(Keeps.iC w5 ⟨ib id,2,none⟩ _).mono fun b _ hb=>by rw[show b=ib id from hb,hgi];simp
       exact(k1.trans k2 (fun _ _ h=>h)).trans k3 (fun _ _ h=>h)
    ·have hne:((aB T ls').2.2==0)=false:=by simpa using hp
     have hne2:((aB T ls').2.2 !=0)=true:=by simpa using hp
     have HM:Hid (dz T ls ls'=((aB T ls').2.2,T)):=by
      have:jC T ls ls'=(aB T ls').2.2:=by
       unfold jC
       rw[if_neg (by rw[vX.out];simp),←HQ.out,if_neg (by simp),if_neg (by rw[bI HY.out];exact hk),if_pos hp]
      unfold dz;rw[this,if_neg hp];exact rfl
     have HP:=Lib.hid hp
     unfold l8 at qK
     generalize aB T ls'=q at*
     clear hp hk
     go_enter Tryz.func16,Tryz.ntmps16
     go_wp2_with fail
     (with_reducible refine HF.out.mono ?_)
     rintro e w1 ⟨rfl,hb1⟩
     have HB1:=Lib.hid hb1
     clear hb1
     go_wp2_with fail
     (with_reducible refine(kW.out w1 HB1.out).mono ?_)
     rintro e w2 ⟨rfl,rfl⟩
     obtain⟨c0,hmap,c1,c2⟩:=HIT.out w1 HB1.out
     have fM:=Lib.hid hmap
     clear hmap
     go_wp2_with (first|(at_lookup;refine aL aW rfl _ _ 94 92 rfl Tryz.underlying94 (Tryz.aU _) rfl fM.out id rfl hok ?_;rw[HG.out]))
     (with_reducible refine(qK.out w1 HB1.out).mono ?_)
     rintro e w2 ⟨rfl,hb2⟩
     rw[if_neg HP.out]
     have HB2:=Lib.hid (HB1.out.trans (hb2.mono HB1.out.size))
     clear hb2
     go_wp2_with fail
     go_ret
     rw[HM.out]
     exact Turn.same HH.out HB2.out rfl
  ·have hne:(e0==0)=false:=by simpa using he
   have hne2:(e0 !=0)=true:=by simpa using he
   have HM:Hid (dz T ls ls'=(e0,T)):=by
    have:jC T ls ls'=e0:=by
     unfold jC
     rw[if_neg (by rw[vX.out];simp),←HQ.out,if_pos he]
    unfold dz;rw[this,if_neg he];exact rfl
   clear he
   go_enter Tryz.func16,Tryz.ntmps16
   go_wp2_with fail
   (with_reducible refine HF.out.mono ?_)
   rintro e w1 ⟨rfl,hb1⟩
   have HB1:=Lib.hid hb1
   clear hb1
   go_wp2_with fail
   (with_reducible refine(kW.out w1 HB1.out).mono ?_)
   rintro e w2 ⟨rfl,rfl⟩
   go_wp2_with fail
   go_ret
   rw[HM.out]
   exact Turn.same HH.out HB1.out rfl
 ·have HM:Hid (dz T ls ls'=(iw ls ls',T)):=by
   have:jC T ls ls'=iw ls ls':=by unfold jC;rw[if_pos hf]
   unfold dz;rw[this,if_neg hf];exact rfl
  have hne:(iw ls ls'==0)=false:=by simpa using hf
  have hne2:(iw ls ls' !=0)=true:=by simpa using hf
  clear hf
  go_enter Tryz.func16,Tryz.ntmps16
  go_wp2_with fail
  (with_reducible refine HF.out.mono ?_)
  rintro e w1 ⟨rfl,hb1⟩
  go_wp2_with fail
  go_ret
  rw[HM.out]
  exact Turn.same HH.out hb1 rfl
end
theorem dG.del {T:aF} (h:dG T) {k:Int} {x:bF} (hx:aj k T=some x) (h0:k≠0) (hn:x.names=[]) (hc:fq T k=0):dG (bg k T):=by
 have hget:∀j y,aj j (bg k T)=some y→j≠k∧aj j T=some y:=fun j y hy=>by
  rw[eH]at hy
  by_cases hj:j=k
  ·rw[if_pos hj]at hy;cases hy
  ·rw[if_neg hj]at hy;exact⟨hj,hy⟩
 have hcn:∀j,cn j x=0:=fun j=>by unfold cn;rw[hn];rfl
 refine⟨⟨h.sorted.bg _,?_,fun j y hy=>h.each j y (hget j y hy).2,fun j y hy e he=> ?_,?_,fun j y hy=>h.ids j y (hget j y hy).2⟩,fun j y hy hj=> ?_⟩
 ·have hr:=h.root
  unfold bq at hr⊢
  rw[eH,if_neg (Ne.symm h0)]
  exact hr
 ·have h1:=h.leads j y (hget j y hy).2 e he
  have h2:=vF hc (hget j y hy).2 e he
  rw[eH,if_neg h2]
  exact h1
 ·have:=pG dB h.sorted hx
  have:=h.len
  omega
 ·have h1:=tQ h.sorted hx j
  rw[hcn]at h1
  have h2:=h.counts j y (hget j y hy).2 hj
  omega
theorem dG.settle {T:aF} (h:dG T) {k:Int} (hk:k≠0) (hf:∀x,aj k T=some x→x.kind≠2):dG (eP T k):=by
 unfold eP
 cases hx:aj k T with
 |none=>exact h
 |some x=>
  simp only
  by_cases hc:x.links=0∧x.closed=true
  ·rw[if_pos hc]
   have hk1:=(h.each k x hx).kind.resolve_right (hf x hx)
   refine h.del hx hk ((h.each k x hx).file hk1) ?_
   have:=h.counts k x hx hk
   omega
  ·rw[if_neg hc];exact h
theorem dG.qx {T:aF} (h:dG T) {k:Int} {x:bF} (hx:aj k T=some x) (hk:x.kind≠2):k≠0:=by
 rintro rfl
 have:=h.root
 unfold bq at this
 rw[hx]at this
 exact hk this
theorem vZ {T:aF} (hT:dG T) {ls:List Nm} {kind:Int} (h:iX T ls kind=0):bM ls=0∧(kind=1∨kind=2)∧(aB T ls).2.2=0∧aj (aB T ls).2.1 (aO T (aB T ls).1)=none∧T.length<64:=by
 unfold iX at h
 by_cases h1:bM ls≠0
 ·rw[if_pos h1]at h;exact absurd h h1
 ·rw[if_neg h1]at h
  by_cases h2:¬(kind=1∨kind=2)
  ·rw[if_pos h2]at h;cases h
  ·rw[if_neg h2]at h
   by_cases h3:(aB T ls).2.2≠0
   ·rw[if_pos h3]at h;exact absurd h h3
   ·rw[if_neg h3]at h
    by_cases h4:(aj (aB T ls).2.1 (aO T (aB T ls).1)).isSome=true
    ·rw[if_pos h4]at h;cases h
    ·rw[if_neg h4]at h
     by_cases h5:64≤T.length
     ·rw[if_pos h5]at h;cases h
     ·exact⟨by omega,Decidable.not_not.1 h2,by omega,by simpa using h4,by omega⟩
theorem dG.cu {T:aF} (h:dG T) (ls:List Nm) (kind:Int):dG (cu T ls kind).2:=by
 unfold Go.Proofs.YtohpcppeajijnaaGreat.cu
 by_cases he:iX T ls kind=0
 ·rw[if_pos he]
  obtain⟨h1,h2,h3,h4,h5⟩:=vZ h he
  obtain⟨x,hx,hk,hm⟩:=fQ h h3
  obtain⟨f,hf,hf1,hf2,hfn,_⟩:=h.free
  have e1:aO T (aB T ls).1=x.names:=by unfold aO;rw[hx]
  rw[e1]at h4
  have hlen:=h.len
  show dG (pI T ls kind)
  unfold pI
  rw[hf]
  exact h.make h2 hfn (by omega) (by omega) h5 hx hk (gW h1 _ hm) h4
 ·rw[if_neg he];exact h
theorem dG.bK {T:aF} (h:dG T) (id:Int) (b:List UInt8):dG (bK T id b).2:=by
 unfold Go.Proofs.YtohpcppeajijnaaGreat.bK
 by_cases he:jo T id b=0
 ·simp only[if_pos he]
  unfold jo at he
  cases hx:aj id T with
  |none=>rw[hx]at he;cases he
  |some x=>
   rw[hx]at he
   simp only at he
   by_cases hk:x.kind=2
   ·rw[if_pos hk]at he;cases he
   ·rw[if_neg hk]at he
    cases hc:x.closed with
    |true=>rw[hc]at he;cases he
    |false=>
     rw[hc]at he
     simp only[Bool.false_eq_true,if_false]at he
     by_cases hb:4096<x.b.length+b.length
     ·rw[if_pos hb]at he;cases he
     ·have ho:=h.each id x hx
      exact h.tT hx ⟨ho.kind,ho.file,fun h=>absurd h hk,fun _=>hc,ho.sorted,ho.good,by rw[List.length_append];omega,ho.links,ho.aK⟩ rfl rfl rfl
 ·simp only[if_neg he];exact h
theorem dG.dR {T:aF} (h:dG T) (id aK:Int) (h0:0≤aK):dG (dR T id aK).2:=by
 unfold Go.Proofs.YtohpcppeajijnaaGreat.dR
 by_cases he:oI T id aK=0
 ·simp only[if_pos he]
  unfold oI at he
  cases hx:aj id T with
  |none=>rw[hx]at he;cases he
  |some x=>
   rw[hx]at he
   simp only at he
   by_cases hk:x.kind=2
   ·rw[if_pos hk]at he;cases he
   ·rw[if_neg hk]at he
    cases hc:x.closed with
    |true=>rw[hc]at he;cases he
    |false=>
     rw[hc]at he
     simp only[Bool.false_eq_true,if_false]at he
     by_cases hb:1099511627776<aK
     ·rw[if_pos hb]at he;cases he
     ·have ho:=h.each id x hx
      have hk1:=ho.kind.resolve_right hk
      have hcnt:=h.counts id x hx (h.qx hx hk)
      by_cases hl:x.links=0
      ·have hn:=ho.file hk1
       have e:eP (Go.Proofs.YtohpcppeajijnaaGreat.aX id (fun x=>{x with closed:=true,aK:=aK}) T) id=bg id T:=by
        unfold eP
        rw[aQ,if_pos rfl,hx]
        simp only[Option.map_some,hl,and_self,if_true]
        unfold bg Go.Proofs.YtohpcppeajijnaaGreat.aX
        clear hx ho hcnt he h
        induction T with
        |nil=>rfl
        |cons y r ih=>
         rw[List.map_cons,List.filter_cons,List.filter_cons,ih]
         by_cases hy:y.1=id<;>simp[hy]
       rw[e]
       exact h.del hx (h.qx hx hk) hn (by omega)
      ·have hs:dG (Go.Proofs.YtohpcppeajijnaaGreat.aX id (fun x=>{x with closed:=true,aK:=aK}) T):=
        h.tT hx ⟨ho.kind,ho.file,fun h=>absurd h hk,fun h=>absurd h hl,ho.sorted,ho.good,ho.size,ho.links,⟨h0,by simp only;omega⟩⟩ rfl rfl rfl
       exact hs.settle (h.qx hx hk) (fun y hy=>by
        rw[aQ,if_pos rfl,hx]at hy
        simp only[Option.map_some,Option.some.injEq]at hy
        rw[←hy]
        exact hk)
 ·simp only[if_neg he];exact h
theorem dG.dL {T:aF} (h:dG T) (id aK:Int) (h0:0≤aK):dG (dL T id aK).2:=by
 unfold Go.Proofs.YtohpcppeajijnaaGreat.dL
 by_cases he:oJ T id aK=0
 ·simp only[if_pos he]
  unfold oJ at he
  cases hx:aj id T with
  |none=>rw[hx]at he;cases he
  |some x=>
   rw[hx]at he
   simp only at he
   by_cases hk:x.kind=2
   ·rw[if_pos hk]at he;cases he
   ·rw[if_neg hk]at he
    by_cases hc:x.closed=false
    ·rw[if_pos hc]at he;cases he
    ·rw[if_neg hc]at he
     by_cases hb:aK<x.aK
     ·rw[if_pos hb]at he;cases he
     ·rw[if_neg hb]at he
      by_cases hb:1099511627776<aK
      ·rw[if_pos hb]at he;cases he
      ·have ho:=h.each id x hx
       exact h.tT hx ⟨ho.kind,ho.file,fun h=>absurd h hk,ho.gone,ho.sorted,ho.good,ho.size,ho.links,⟨h0,by simp only;omega⟩⟩ rfl rfl rfl
 ·simp only[if_neg he];exact h
theorem wh {T:aF} {p tq:List Nm} (h:jC T p tq=0):iw p tq=0∧(aC T 0 p).2=0∧bq T (aC T 0 p).1≠2∧(aB T tq).2.2=0∧aj (aB T tq).2.1 (aO T (aB T tq).1)=none∧nU T (aC T 0 p).1<64:=by
 unfold jC at h
 by_cases h1:iw p tq≠0
 ·rw[if_pos h1]at h;exact absurd h h1
 ·rw[if_neg h1]at h
  by_cases h2:(aC T 0 p).2≠0
  ·rw[if_pos h2]at h;exact absurd h h2
  ·rw[if_neg h2]at h
   by_cases h3:bq T (aC T 0 p).1=2
   ·rw[if_pos h3]at h;cases h
   ·rw[if_neg h3]at h
    by_cases h4:(aB T tq).2.2≠0
    ·rw[if_pos h4]at h;exact absurd h h4
    ·rw[if_neg h4]at h
     by_cases h5:(aj (aB T tq).2.1 (aO T (aB T tq).1)).isSome=true
     ·rw[if_pos h5]at h;cases h
     ·rw[if_neg h5]at h
      by_cases h6:64≤nU T (aC T 0 p).1
      ·rw[if_pos h6]at h;cases h
      ·exact⟨by omega,by omega,h3,by omega,by simpa using h5,by omega⟩
theorem mg {p q:List Nm} (h:iw p q=0):bM p=0∧bM q=0:=by
 unfold iw at h
 split at h
 ·rename_i h1;exact absurd h h1
 ·exact⟨by omega,h⟩
theorem dG.dz {T:aF} (h:dG T) (p tq:List Nm):dG (dz T p tq).2:=by
 unfold Go.Proofs.YtohpcppeajijnaaGreat.dz
 by_cases he:jC T p tq=0
 ·simp only[if_pos he]
  obtain⟨h1,h2,h3,h4,h5,h6⟩:=wh he
  obtain⟨x,hx,hk,hm⟩:=fQ h h4
  obtain⟨y,hy⟩:=Option.isSome_iff_exists.1 (fA h p 0 (dU h) h2)
  have e1:aO T (aB T tq).1=x.names:=by unfold aO;rw[hx]
  have e2:nU T (aC T 0 p).1=y.links:=by unfold nU;rw[hy]
  rw[e1]at h5
  rw[e2]at h6
  rw[bI hy]at h3
  exact h.link hx hk (gW (mg h1).2 _ hm) h5 hy h3 h6 (h.qx hy h3)
 ·simp only[if_neg he];exact h
def Bc (W:World) (P:Nat→Prop) (x:Nat):Prop:=W.heap.size≤x∧¬P x
structure cO (W:World) (P:Nat→Prop) (w:World) (p:Nat) (T:aF):Prop where
 at_:∃g D mb ib nb,aJ g D w p mb ib nb T∧∀b,g b≠ .none∨D b→W.heap.size≤b∧¬P b
 ok:dG T
 below:Below W.heap.size W w
 low:∀x,P x→x<w.heap.size
theorem cO.grow {W w w':World} {P:Nat→Prop} {p:Nat} {T:aF} (h:cO W P w p T) (hb:Below w.heap.size w w'):cO W P w' p T:=by
 obtain⟨g,D,mb,ib,nb,hA,hF⟩:=h.at_
 exact⟨⟨g,D,mb,ib,nb,hA.below hb (Nat.le_refl _),hF⟩,h.ok,h.below.trans (hb.mono h.below.size),fun x hx=>Nat.lt_of_lt_of_le (h.low x hx) hb.size⟩
theorem cO.zX {W w w':World} {P:Nat→Prop} {p:Nat} {T:aF} (h:cO W P w p T) (hb:Below w.heap.size w w'):cO W (fun x=>P x∨(w.heap.size≤x∧x<w'.heap.size)) w' p T:=by
 have h1:=h.grow hb
 obtain⟨g,D,mb,ib,nb,hA,hF⟩:=h.at_
 refine⟨⟨g,D,mb,ib,nb,hA.below hb (Nat.le_refl _),fun x hx=>⟨(hF x hx).1,fun hp=> ?_⟩⟩,h.ok,h1.below,fun x hx=> ?_⟩
 ·rcases hp with hp|hp
  ·exact(hF x hx).2 hp
  ·rcases hx with hx|hx
   ·have:=hA.low x hx;omega
   ·have:=hA.nW x hx;omega
 ·rcases hx with hx|hx
  ·exact h1.low x hx
  ·exact hx.2
theorem cO.mono {W w:World} {P Q:Nat→Prop} {p:Nat} {T:aF} (h:cO W P w p T) (hq:∀x,Q x→P x):cO W Q w p T:=by
 obtain⟨g,D,mb,ib,nb,hA,hF⟩:=h.at_
 exact⟨⟨g,D,mb,ib,nb,hA,fun x hx=>⟨(hF x hx).1,fun h=>(hF x hx).2 (hq x h)⟩⟩,h.ok,h.below,fun x hx=>h.low x (hq x hx)⟩
def dS (W:World) (P:Nat→Prop) (w:World) (p:Nat) (T:aF) (v:Value) (e:Ending) (w':World):Prop:=
 e= .returned v∧cO W P w' p T∧Keeps (Bc W P) w w'
theorem cO.kY {W w w':World} {P:Nat→Prop} {p mb:Nat} {T':aF} {v:Value} {e:Ending} {g:Nat→Own} {D:Nat→Prop} (hF:∀b,g b≠ .none∨D b→W.heap.size≤b∧¬P b) (hB:Below W.heap.size W w) (hP:∀x,P x→x<w.heap.size) (ht:Turn g D w p mb T' v e w') (hok:dG T'):dS W P w p T' v e w':=by
 obtain⟨rfl,g',D',Mg,nb',hA',hg',hD',hK⟩:=ht
 have hs:=hB.size
 refine⟨rfl,⟨⟨g',D',mb,Mg,nb',hA',fun b hb=> ?_⟩,hok,hB.trans (hK.jd hs fun x hx hgx=>by have:=(hF x (.inl hgx)).1;omega),fun x hx=>Nat.lt_of_lt_of_le (hP x hx) hK.size⟩,hK.mono fun x _ hx=>hF x (.inl hx)⟩
 have key:(g b≠ .none∨D b)∨w.heap.size≤b:=by
  rcases hb with hb|hb
  ·rcases hg' b hb with h|h
   ·exact .inl (.inl h)
   ·exact .inr h
  ·rcases hD' b hb with h|h
   ·exact .inl (.inr h)
   ·exact .inr h
 rcases key with h|h
 ·exact hF b h
 ·exact⟨by omega,fun hp=>by have:=hP b hp;omega⟩
section
variable {W w:World} {P:Nat→Prop} {p:Nat} {T:aF}
theorem zY {S:Nat→Prop} (h:cO W P w p T) (a:Option Addr) (n c:Nat) (ls:List Nm) (kind:Int) (hS:aH S w a n (ls.map strOf)) (hc:n≤c) (jS:n≤1000000):
  Calls Tryz.prog 12 #[ptr p, .slice a n c, .int .i64 kind] w (dS W P w p (cu T ls kind).2 (.tuple #[.int .i64 (cu T ls kind).1.1, .int .i64 (cu T ls kind).1.2])):=by
 obtain⟨g,D,mb,ib,nb,hA,hF⟩:=h.at_
 exact(Em a n c ls kind w hA h.ok hS hc jS).mono fun e w' ht=>cO.kY hF h.below h.low ht (h.ok.cu _ _)
theorem Et {S S':Nat→Prop} (h:cO W P w p T) (a:Option Addr) (n c:Nat) (ls:List Nm) (a':Option Addr) (n' c':Nat) (ls':List Nm) (hS:aH S w a n (ls.map strOf)) (hS':aH S' w a' n' (ls'.map strOf)) (hc':n'≤c') (jS:n'≤1000000):
  Calls Tryz.prog 16 #[ptr p, .slice a n c, .slice a' n' c'] w (dS W P w p (dz T ls ls').2 (.int .i64 (dz T ls ls').1)):=by
 obtain⟨g,D,mb,ib,nb,hA,hF⟩:=h.at_
 exact(Es a n c ls a' n' c' ls' w hA h.ok hS hS' hc' jS).mono fun e w' ht=>cO.kY hF h.below h.low ht (h.ok.dz _ _)
theorem Fy {S:Nat→Prop} (h:cO W P w p T) (id:Int) (a:Option Addr) (l c:Nat) (bs:List UInt8) (hid:(Lit.int .i64 id).wf=true) (hr:av S w a l (bs.map bv)) (hl:l≤1000000000):
  Calls Tryz.prog 20 #[ptr p, .int .i64 id, .slice a l c] w (dS W P w p (bK T id bs).2 (.int .i64 (bK T id bs).1)):=by
 obtain⟨g,D,mb,ib,nb,hA,hF⟩:=h.at_
 exact(yN id a l c bs w hA (fun x hx=>(h.ok.each id x hx).size) hid hr hl).mono fun e w' ht=>cO.kY hF h.below h.low ht (h.ok.bK _ _)
theorem Ki (h:cO W P w p T) (id aK:Int) (hid:(Lit.int .i64 id).wf=true) (ht0:0≤aK) (ht1:aK≤18446744073709551615):
  Calls Tryz.prog 23 #[ptr p, .int .i64 id, .int .u64 aK] w (dS W P w p (dR T id aK).2 (.int .i64 (dR T id aK).1)):=by
 obtain⟨g,D,mb,ib,nb,hA,hF⟩:=h.at_
 exact(Eo id aK w hA hid ht0 ht1).mono fun e w' ht=>cO.kY hF h.below h.low ht (h.ok.dR _ _ ht0)
theorem Kj (h:cO W P w p T) (id aK:Int) (hid:(Lit.int .i64 id).wf=true) (ht0:0≤aK) (ht1:aK≤18446744073709551615):
  Calls Tryz.prog 25 #[ptr p, .int .i64 id, .int .u64 aK] w (dS W P w p (dL T id aK).2 (.int .i64 (dL T id aK).1)):=by
 obtain⟨g,D,mb,ib,nb,hA,hF⟩:=h.at_
 exact(Ep id aK w hA hid ht0 ht1 (fun x hx=>(h.ok.each id x hx).aK)).mono fun e w' ht=>cO.kY hF h.below h.low ht (h.ok.dL _ _ ht0)
theorem Kk (h:cO W P w p T) (id at_ n:Int) (hid:(Lit.int .i64 id).wf=true) (hA:(Lit.int .i64 at_).wf=true) (hN:(Lit.int .i64 n).wf=true):
  Calls Tryz.prog 27 #[ptr p, .int .i64 id, .int .i64 at_, .int .i64 n] w (qw w (lZ T id at_ n) (lY T id at_ n)):=by
 obtain⟨g,D,mb,ib,nb,hAt,hF⟩:=h.at_
 exact Bb id at_ n w hAt (fun x hx=>(h.ok.each id x hx).size) hid hA hN
theorem Eu (h:cO W P w p T) (id:Int) (hid:(Lit.int .i64 id).wf=true):
  Calls Tryz.prog 95 #[ptr p, .int .i64 id] w fun e w'=>e= .returned (.tuple #[iI T id, .bool (aj id T).isSome])∧Below w.heap.size w w':=by
 obtain⟨g,D,mb,ib,nb,hAt,hF⟩:=h.at_
 exact A8 id w hAt hid
theorem Bd (h:cO W P w p T):Calls Tryz.prog 48 #[ptr p] w fun e w'=>e= .returned (.int .i64 T.length)∧w=w':=by
 obtain⟨g,D,mb,ib,nb,hAt,hF⟩:=h.at_
 exact yK w hAt
theorem H_ (W w:World) (hB:Below W.heap.size W w):Calls Tryz.prog 10 #[] w fun e w'=>∃p,e= .returned (ptr p)∧cO W (fun x=>x<w.heap.size) w' p kV∧Below w.heap.size w w':=by
 refine(Ke w).mono ?_
 rintro e w' ⟨g,mb,ib,nb,p,rfl,hA,hg,hb⟩
 have hs:=hB.size
 refine⟨p,rfl,⟨⟨g,_,mb,ib,nb,hA,fun b hb=> ?_⟩,Er,hB.trans (hb.mono hs),fun x hx=>Nat.lt_of_lt_of_le hx hb.size⟩,hb⟩
 rcases hb with hb|hb
 ·have:=hg b hb;omega
 ·exact hb.elim
end
end Go.Proofs.YtohpcppeajijnaaGreat
