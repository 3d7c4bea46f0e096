/- tree: New; Drop refused. tree: Link. A law's own tree, beside what else is the law's. -/
import Derived.Test.YtmabllemjkcobaaGreatM13
namespace Go.Proofs.YtmabllemjkcobaaGreat
open Go.ChangeShapes Go.WideShapes Go.ChangeAt Go.RowKit
set_option linter.unusedVariables false
set_option linter.unusedSimpArgs false
def newG (B b:Nat):Own:=if b=B then .items else if b=B+1 then .item 0 else if b=B+2 then .names 0 else .none
theorem Qp {w w1 w2:World} (hi:jB (fun _=>False) w1 0 (w.heap.size+1) (w.heap.size+1+1) (bZ 2)) (hb:Below (w.heap.size+1) (w.alloc (.map #[] 0)) w1) (hs:w.heap.size+1+1<w1.heap.size)
  (hM:MapAt bC w2 w.heap.size (dF bC.lt 0 (ptr (w.heap.size+1)) [])) (hT:w1.mapTurned w2 w.heap.size):
  aO (fun b=>if b=w2.heap.size then .head else newG w.heap.size b) (fun _=>False) (w2.alloc (.cells #[.map (some w.heap.size)] 103)) w2.heap.size w.heap.size (fun _=>w.heap.size+1) (fun _=>w.heap.size+2) l9∧Below w.heap.size w (w2.alloc (.cells #[.map (some w.heap.size)] 103)):=by
 have hsz:=jd hT
 have hK:=gW hT
 have hw3:∀b,b<w2.heap.size→(w2.alloc (.cells #[.map (some w.heap.size)] 103)).heap[b]? =w2.heap[b]? :=fun b hb=>Below.heap_alloc _ _ _ hb
 have hget:∀k x,aj k l9=some x→k=0∧x=bZ 2:=fun k x h=>by
  unfold l9 at h
  rw[fZ]at h
  by_cases hk:(0:Int)=k
  ·rw[if_pos hk]at h;exact⟨hk.symm,by cases h;rfl⟩
  ·rw[if_neg hk]at h;cases h
 have hB0:Below w.heap.size w (w.alloc (.map #[] 0)):=wall w _
 constructor
 ·refine⟨(MapKept.heap_alloc w2 _).1,?_,fun k x hx=> ?_,by simp,?_,fun k x hx=> ?_,fun k x hx _=> ?_,fun _ h=>h.elim,fun b hb=> ?_,fun _ h=>h.elim⟩
  ·have:=hM.kept (hw3 _ (by omega))
   exact this
  ·obtain⟨rfl,rfl⟩:=hget k x hx
   refine hi.move (by simp;omega) ?_ (fun _=> ?_) (fun _ h=>h.elim)
   ·rw[hw3 _ (by omega),hK.block _ (by omega) (by omega)]
   ·rw[hw3 _ (by omega),hK.block _ (by omega) (by omega)]
  ·rw[if_neg (by omega)];simp[newG]
  ·obtain⟨rfl,rfl⟩:=hget k x hx
   rw[if_neg (by omega)];simp[newG]
  ·obtain⟨rfl,rfl⟩:=hget k x hx
   rw[if_neg (by omega)];simp[newG]
  ·rw[World.size_alloc]
   by_cases h1:b=w2.heap.size
   ·omega
   ·rw[if_neg h1]at hb
    unfold newG at hb
    by_cases h2:b=w.heap.size
    ·omega
    ·by_cases h3:b=w.heap.size+1
     ·omega
     ·by_cases h4:b=w.heap.size+2
      ·omega
      ·simp[h2,h3,h4]at hb
 ·refine(hB0.trans (hb.mono (by omega))).trans ⟨hK.os,hK.tape,hK.output,by rw[World.size_alloc];omega,fun b hbw=> ?_⟩
  have:=hb.size
  rw[World.size_alloc]at this
  rw[hw3 _ (by omega),hK.block _ (by omega) (by omega)]
set_option maxHeartbeats 1000000 in
theorem Qq (w:World):Calls Tryz.prog 11 #[] w fun e w'=>∃g mb ib nb p,e= .returned (ptr p)∧aO g (fun _=>False) w' p mb ib nb l9∧(∀b,g b≠ .none→w.heap.size≤b)∧Below w.heap.size w w':=by
 have hmm:= @run_makeMap Tryz.prog
 have HST:Hid (∀w1,Below (w.heap.size+1) (w.alloc (.map #[] 0)) w1→∃w2,(Instr.mapUpdate 101 (.map (some w.heap.size)) (.int .i64 0) (ptr (w.heap.size+1))).run Tryz.prog w1= .ok () w2∧MapAt bC w2 w.heap.size (dF bC.lt 0 (ptr (w.heap.size+1)) [])∧w1.mapTurned w2 w.heap.size):=fun w1 hb=>by
  have hm1:MapAt bC w1 w.heap.size []:=(MapAt.made (F:=bC) w).kept (hb.block _ (by omega))
  exact hm1.tu bC Tryz.underlying101 (by show 0<maxLen;unfold maxLen;omega) 0 _ (mh (by omega) (by omega))
 go_enter Tryz.func11,Tryz.ntmps11
 go_wp2_with fail
 (with_reducible refine(xg _ _ _).mono ?_)
 rintro e w1 ⟨rfl,hi1,hb1,hs1,hs2⟩
 rw[World.size_alloc]at hi1 hb1 hs1 hs2
 obtain⟨w2,hrun2,hM2,Qr⟩:=HST.out w1 hb1
 have HI1:=Lib.hid hi1
 have HB1:=Lib.hid hb1
 have D5:=Lib.hid hM2
 have HT2:=Lib.hid Qr
 have hs3:=hs2 rfl
 clear hi1 hb1 hM2 Qr hs2
 go_wp2_with fail
 go_ret
 obtain⟨h1,h2⟩:=Qp HI1.out HB1.out hs3 D5.out HT2.out
 refine⟨_,_,_,_,_,rfl,h1,fun b hb=> ?_,h2⟩
 have h3:=HB1.out.size
 rw[World.size_alloc]at h3
 have h4:=jd HT2.out
 by_cases e1:b=w2.heap.size
 ·omega
 ·rw[if_neg e1]at hb
  unfold newG at hb
  by_cases e2:b=w.heap.size
  ·omega
  ·by_cases e3:b=w.heap.size+1
   ·omega
   ·by_cases e4:b=w.heap.size+2
    ·omega
    ·simp[e2,e3,e4]at hb
theorem JR:dX l9:=by
 have hget:∀k x,aj k l9=some x→k=0∧x=bZ 2:=fun k x h=>by
  unfold l9 at h
  rw[fZ]at h
  by_cases hk:(0:Int)=k
  ·rw[if_pos hk]at h;exact⟨hk.symm,by cases h;rfl⟩
  ·rw[if_neg hk]at h;cases h
 refine⟨⟨by simp[l9,aS],rfl,fun k x hx=> ?_,fun k x hx e he=> ?_,by simp[l9],fun k x hx=> ?_⟩,fun k x hx hk=> ?_⟩
 ·obtain⟨rfl,rfl⟩:=hget k x hx;exact Cn (.inr rfl)
 ·obtain⟨rfl,rfl⟩:=hget k x hx;cases he
 ·obtain⟨rfl,rfl⟩:=hget k x hx;omega
 ·exact absurd (hget k x hx).1 hk
section
variable {g:Nat→Own} {D:Nat→Prop} {p mb:Nat} {ib nb:Int→Nat} {T:aG}
set_option maxHeartbeats 1000000 in
theorem Nf (id:Int) (hd:mW T id≠0) (w:World) (h:aO g D w p mb ib nb T) (hid:(Lit.int .i64 id).wf=true):
  Calls Tryz.prog 30 #[ptr p, .int .i64 id] w (Turn g D w p mb (eX T id).2 (.int .i64 (eX T id).1)):=by
 have HH:=Lib.hid h
 have hcb:(w.alloc (.cells #[.int .i64 id] 3)).cell? ⟨w.heap.size,0,none⟩=some (.int .i64 id):=qK
 have hA:=h.below (wall w (.cells #[.int .i64 id] 3)) (Nat.le_refl _)
 by_cases hf:dx T id=0
 ·obtain⟨x,hx,hk⟩:=og hf
  have HF:=Lib.hid (tH id hx hk _ hA hid)
  obtain⟨c0,c1,c2,c3,c4,c5,c7,hiw⟩:=(h.item id x hx).cell
  have hE:mW T id=if x.closed then 27 else 0:=by unfold mW;rw[hx];simp only[if_neg hk]
  cases hcl:x.closed with
  |false=>exact absurd (by rw[hE,hcl];rfl) hd
  |true=>
   have HM:Hid (eX T id=(27,T)):=by
    unfold eX
    rw[hE,hcl];simp only[if_pos];exact rfl
   rw[hcl]at c5
   clear hE hcl hx hk hf h c7 hA hd
   go_enter Tryz.func30,Tryz.ntmps30
   go_wp2_with fail
   (with_reducible refine HF.out.mono ?_)
   rintro e w1 ⟨rfl,rfl⟩
   go_wp2_with fail
   go_ret
   rw[HM.out]
   exact Turn.same HH.out (wall w _) rfl
 ·have hne:(dx T id==0)=false:=by simpa using hf
  have HF:=Lib.hid (rZ id _ rfl hf _ hA hid)
  have HM:Hid (eX T id=(dx T id,T)):=by
   unfold eX
   rw[KP hf,if_neg hf];exact rfl
  obtain⟨k,hk⟩:∃k,k=dx T id:=⟨_,rfl⟩
  rw[←hk]at HF hne HM
  clear hf h hk hA hd
  go_enter Tryz.func30,Tryz.ntmps30
  go_wp2_with fail
  (with_reducible refine HF.out.mono ?_)
  rintro e w1 ⟨rfl,rfl⟩
  go_wp2_with fail
  go_ret
  rw[HM.out]
  exact Turn.same HH.out (wall w _) rfl
end
section
variable {g:Nat→Own} {D:Nat→Prop} {p mb:Nat} {ib nb:Int→Nat} {T:aG}
theorem bQ {id:Int} {x:bW} (hx:aj id T=some x):bO T id=x.kind:=by unfold bO;rw[hx]
theorem dX.link (h:dX T) {d id:Int} {x y:bW} {n:Nm} (hx:aj d T=some x) (hxk:x.kind=2) (hn:dw n=true) (hnn:aj n x.names=none) (hy:aj id T=some y) (hyk:y.kind≠2) (hl:y.links<64) (h0:id≠0):
  dX (Go.Proofs.YtmabllemjkcobaaGreat.bH id (fun x=>{x with links:=x.links+1}) (setName T d n id)):=by
 have hdi:id≠d:=fun e=>by subst e;rw[hx]at hy;cases hy;exact hyk hxk
 have hP:=h.toyQ.set (n:=n) (id:=id) hx hxk hn ⟨by rw[hy];rfl,h0⟩
 have hy1:aj id (setName T d n id)=some y:=by unfold setName;rw[bq,if_neg hdi];exact hy
 have hoy:=h.each id y hy
 have hk1:y.kind=1:=hoy.kind.resolve_right hyk
 have hsame:cn id {y with links:=y.links+1}=cn id y:=rfl
 refine⟨hP.bH (f:=fun x=>{x with links:=x.links+1}) hy1 ⟨hoy.kind,hoy.file,fun h=>absurd h hyk,fun h=> ?_,hoy.sorted,hoy.good,hoy.size,?_,hoy.aQ⟩ rfl (hP.leads id y hy1),fun j z hz hj=> ?_⟩
 ·have:=hoy.links
  have h2:y.links+1=0:=h
  omega
 ·have:=hoy.links
  simp only
  omega
 ·have h1:=lg hP.sorted (fun x=>{x with links:=x.links+1}) hy1 j
  have h1':cn j {y with links:=y.links+1}=cn j y:=rfl
  have h2:=lg h.sorted (fun x=>{x with names:=dF bytesBefore n id x.names}) hx j
  have h3:=H9 (id:=id) hnn j
  have e:gy (Go.Proofs.YtmabllemjkcobaaGreat.bH id (fun x=>{x with links:=x.links+1}) (setName T d n id)) j=gy T j+if id=j then 1 else 0:=by
   unfold setName at h1⊢
   rw[h1']at h1
   omega
  rw[e]
  rw[bq]at hz
  by_cases hji:j=id
  ·subst hji
   rw[if_pos rfl,hy1]at hz
   simp only[Option.map_some,Option.some.injEq]at hz
   rw[←hz,if_pos rfl]
   have:=h.counts j y hy hj
   simp only
   omega
  ·rw[if_neg hji]at hz
   rw[if_neg (Ne.symm hji)]
   unfold setName at hz
   rw[bq]at hz
   by_cases hjd:j=d
   ·subst hjd
    rw[if_pos rfl,hx]at hz
    simp only[Option.map_some,Option.some.injEq]at hz
    have:=h.counts j x hx hj
    rw[←hz]
    simp only
    omega
   ·rw[if_neg hjd]at hz
    have:=h.counts j z hz hj
    omega
theorem qN {p:List Nm} {id:Int} (h:aH T 0 p=(id,0)) (hT:dX T):(aj id T).isSome=true:=by
 have:=fP hT p 0 (eF hT) (by rw[h])
 rw[h]at this
 exact this
set_option maxRecDepth 100000 in
set_option maxHeartbeats 8000000 in
theorem JU {S S':Nat→Prop} (a:Option Addr) (n c:Nat) (ls:List Nm) (a':Option Addr) (n' c':Nat) (ls':List Nm) (w:World) (h:aO g D w p mb ib nb T) (hT:dX T) (hS:aK S w a n (ls.map strOf)) (hS':aK S' w a' n' (ls'.map strOf)) (hc':n'≤c') (kV:n'≤1000000):
  Calls Tryz.prog 17 #[ptr p, .slice a n c, .slice a' n' c'] w (Turn g D w p mb (eD T ls ls').2 (.int .i64 (eD T ls ls').1)):=by
 have HH:=Lib.hid h
 have HT:=Lib.hid hT
 have HF:=Lib.hid (EY a n c ls a' n' c' ls' w hS hS')
 have mZ:=Lib.hid (fun w1 (hb:Below w.heap.size w w1)=>qc a n c ls w1 (h.below hb (Nat.le_refl _)) hT (hS.below hb (Nat.le_refl _)))
 have uj:=Lib.hid (fun w1 (hb:Below w.heap.size w w1)=>tC a' n' c' ls' w1 (h.below hb (Nat.le_refl _)) hT (hS'.below hb (Nat.le_refl _)) hc' kV)
 clear h hT hS hS'
 by_cases hf:je ls ls'=0
 ·have zD:=Lib.hid hf
  rw[hf]at HF
  clear hf
  obtain⟨⟨id,e0⟩,hq⟩:∃q,q=aH T 0 ls:=⟨_,rfl⟩
  have HQ:=Lib.hid hq
  rw[←hq]at mZ
  clear hq
  by_cases he:e0=0
  ·subst he
   obtain⟨y,hy⟩:=Option.isSome_iff_exists.1 (qN HQ.out.symm HT.out)
   have HY:=Lib.hid hy
   have lq:=HT.out.ids id y hy
   have hok:bC.ok id:=mh lq.1 (by omega)
   have HG:Hid (aj id (T.map fun q=>(q.1,ptr (ib q.1)))=some (ptr (ib id))):=by rw[dR,hy];rfl
   have HIT:Hid (∀w1,Below w.heap.size w w1→w1.cell? ⟨p,0,none⟩=some (.map (some mb))∧MapAt bC w1 mb (T.map fun q=>(q.1,ptr (ib q.1)))∧w1.cell? ⟨ib id,1,none⟩=some (.int .i64 y.kind)∧w1.cell? ⟨ib id,2,none⟩=some (.int .i64 y.links)):=fun w1 hb=>by
    have h2:=HH.out.below hb (Nat.le_refl _)
    obtain⟨_,c1,c2,_⟩:=(h2.item id y HY.out).cell
    exact⟨h2.cell.1,h2.map,c1,c2⟩
   clear hy
   by_cases hk:y.kind=2
   ·have HM:Hid (eD T ls ls'=(22,T)):=by
     have:ku T ls ls'=22:=by
      unfold ku
      rw[if_neg (by rw[zD.out];simp),←HQ.out,if_neg (by simp),if_pos ((bQ HY.out).trans hk)]
     unfold eD;rw[this,if_neg (by decide)];exact rfl
    go_enter Tryz.func17,Tryz.ntmps17
    go_wp2_with fail
    (with_reducible refine HF.out.mono ?_)
    rintro e w1 ⟨rfl,hb1⟩
    have HB1:=Lib.hid hb1
    clear hb1
    go_wp2_with fail
    (with_reducible refine(mZ.out w1 HB1.out).mono ?_)
    rintro e w2 ⟨rfl,rfl⟩
    obtain⟨c0,hmap,c1,c2⟩:=HIT.out w1 HB1.out
    rw[hk]at c1
    have gG:=Lib.hid hmap
    clear hmap
    go_wp2_with (first|(at_lookup;refine aW bC rfl _ _ 101 99 rfl Tryz.underlying101 (Tryz.bA _) rfl gG.out id rfl hok ?_;rw[HG.out]))
    go_ret
    rw[HM.out]
    exact Turn.same HH.out HB1.out rfl
   ·have hkk:(y.kind==2)=false:=by simpa using hk
    by_cases hp:(aI T ls').2.2=0
    ·obtain⟨x,hx,hxk,hnm⟩:=ig HT.out hp
     have hgn:dw (aI T ls').2.1=true:=by
      have:bS ls'=0:=by
       have:=zD.out
       unfold je at this
       split at this
       ·rename_i h1;exact absurd this h1
       ·exact this
      exact iR this _ hnm
     obtain⟨⟨d,nm,z⟩,hq⟩:∃q,q=aI T ls':=⟨_,rfl⟩
     unfold nZ at uj
     rw[←hq]at hp hx hnm hgn uj
     obtain rfl:z=0:=hp
     have Ng:=Lib.hid hq
     have HX:=Lib.hid hx
     have DY:=Lib.hid hgn
     have BM:=Lib.hid hxk
     have TU:=Lib.hid hk
     clear hq hx hgn hxk hnm hk
     have kN:dN.ok nm:=by
      have:=n_ nm DY.out
      show nm.length≤maxLen
      unfold maxLen;omega
     have Bt:Hid (ku T ls ls'=if (aj nm x.names).isSome then 21 else if 64≤y.links then 4 else 0):=by
      have e1:aX T d=x.names:=by unfold aX;rw[HX.out]
      have e2:qI T id=y.links:=by unfold qI;rw[HY.out]
      unfold ku
      rw[if_neg (by rw[zD.out];simp),←HQ.out,if_neg (by simp),if_neg (by rw[bQ HY.out];exact TU.out),←Ng.out,if_neg (by simp),e1,e2]
      exact rfl
     have jT:Hid (∀w2,Below w.heap.size w w2→w2.cell? ⟨ib d,7,none⟩=some (.map (some (nb d)))∧MapAt dN w2 (nb d) (cO x)):=fun w2 hb=>by
      have h2:=HH.out.below hb (Nat.le_refl _)
      have hi:=h2.item d x HX.out
      obtain⟨_,_,_,_,_,_,c7,_⟩:=hi.cell
      unfold gF at c7
      rw[if_pos BM.out]at c7
      exact⟨c7,hi.names BM.out⟩
     cases hj:aj nm x.names with
     |some j=>
      have tF:Hid (aj nm (cO x)=some (.int .i64 j)):=by rw[eB,hj];rfl
      have HM:Hid (eD T ls ls'=(21,T)):=by
       unfold eD;rw[Bt.out,hj];simp only[Option.isSome_some,if_true];exact rfl
      clear hj
      go_enter Tryz.func17,Tryz.ntmps17
      go_wp2_with fail
      (with_reducible refine HF.out.mono ?_)
      rintro e w1 ⟨rfl,hb1⟩
      have HB1:=Lib.hid hb1
      clear hb1
      go_wp2_with fail
      (with_reducible refine(mZ.out w1 HB1.out).mono ?_)
      rintro e w2 ⟨rfl,rfl⟩
      obtain⟨c0,hmap,c1,c2⟩:=HIT.out w1 HB1.out
      have gG:=Lib.hid hmap
      clear hmap
      go_wp2_with (first|(at_lookup;refine aW bC rfl _ _ 101 99 rfl Tryz.underlying101 (Tryz.bA _) rfl gG.out id rfl hok ?_;rw[HG.out]))
      (with_reducible refine(uj.out w1 HB1.out).mono ?_)
      rintro e w2 ⟨rfl,hb2⟩
      (first|rw[if_pos rfl]|rw[if_pos trivial])
      have HB2:=Lib.hid (HB1.out.trans (hb2.mono HB1.out.size))
      clear hb2
      obtain⟨d7,fI⟩:=jT.out w2 HB2.out
      have mK:=Lib.hid fI
      clear fI
      go_wp2_with (at_lookup;refine aJ dN rfl _ _ 112 3 rfl Tryz.underlying112 (Tryz.fq _) rfl mK.out nm rfl kN ?_;rw[tF.out])
      go_ret
      rw[HM.out]
      exact Turn.same HH.out HB2.out rfl
     |none=>
      have tF:Hid (aj nm (cO x)=none):=by rw[eB,hj];rfl
      have HJ:=Lib.hid hj
      clear hj
      by_cases h64:64≤y.links
      ·have HM:Hid (eD T ls ls'=(4,T)):=by
        unfold eD;rw[Bt.out,HJ.out];simp only[Option.isSome_none,Bool.false_eq_true,if_false,if_pos h64];first|exact rfl|exact trivial
       have hd:decide ((64:Int)≤y.links)=true:=by simpa using h64
       go_enter Tryz.func17,Tryz.ntmps17
       go_wp2_with fail
       (with_reducible refine HF.out.mono ?_)
       rintro e w1 ⟨rfl,hb1⟩
       have HB1:=Lib.hid hb1
       clear hb1
       go_wp2_with fail
       (with_reducible refine(mZ.out w1 HB1.out).mono ?_)
       rintro e w2 ⟨rfl,rfl⟩
       obtain⟨c0,hmap,c1,c2⟩:=HIT.out w1 HB1.out
       have gG:=Lib.hid hmap
       clear hmap
       go_wp2_with (first|(at_lookup;refine aW bC rfl _ _ 101 99 rfl Tryz.underlying101 (Tryz.bA _) rfl gG.out id rfl hok ?_;rw[HG.out]))
       (with_reducible refine(uj.out w1 HB1.out).mono ?_)
       rintro e w2 ⟨rfl,hb2⟩
       (first|rw[if_pos rfl]|rw[if_pos trivial])
       have HB2:=Lib.hid (HB1.out.trans (hb2.mono HB1.out.size))
       clear hb2
       obtain⟨d7,fI⟩:=jT.out w2 HB2.out
       obtain⟨_,_,_,f2⟩:=HIT.out w2 HB2.out
       have mK:=Lib.hid fI
       clear fI
       go_wp2_with (at_lookup;refine aJ dN rfl _ _ 112 3 rfl Tryz.underlying112 (Tryz.fq _) rfl mK.out nm rfl kN ?_;rw[tF.out])
       go_ret
       rw[HM.out]
       exact Turn.same HH.out HB2.out rfl
      ·have HM:Hid (eD T ls ls'=(0,bH id (fun x=>{x with links:=x.links+1}) (setName T d nm id))):=by
        unfold eD zx;rw[Bt.out,HJ.out,←Ng.out,←HQ.out];simp only[Option.isSome_none,Bool.false_eq_true,if_false,if_neg h64,if_pos];first|exact rfl|exact trivial
       have hd:decide ((64:Int)≤y.links)=false:=by simpa using h64
       have hln:=(HT.out.each id y HY.out).links
       have hdi:id≠d:=fun e=>by have h1:=HX.out;rw[←e,HY.out]at h1;cases h1;exact TU.out BM.out
       have YK:=Lib.hid hdi
       have vH:(cO x).length<maxLen:=by
        have h1:=HT.out.few HX.out
        unfold cO maxLen;rw[List.length_map];omega
       have TR:=Lib.hid vH
       clear hdi vH
       go_enter Tryz.func17,Tryz.ntmps17
       go_wp2_with fail
       (with_reducible refine HF.out.mono ?_)
       rintro e w1 ⟨rfl,hb1⟩
       have HB1:=Lib.hid hb1
       clear hb1
       go_wp2_with fail
       (with_reducible refine(mZ.out w1 HB1.out).mono ?_)
       rintro e w2 ⟨rfl,rfl⟩
       obtain⟨c0,hmap,c1,c2⟩:=HIT.out w1 HB1.out
       have gG:=Lib.hid hmap
       clear hmap
       go_wp2_with (first|(at_lookup;refine aW bC rfl _ _ 101 99 rfl Tryz.underlying101 (Tryz.bA _) rfl gG.out id rfl hok ?_;rw[HG.out]))
       (with_reducible refine(uj.out w1 HB1.out).mono ?_)
       rintro e w2 ⟨rfl,hb2⟩
       (first|rw[if_pos rfl]|rw[if_pos trivial])
       have HB2:=Lib.hid (HB1.out.trans (hb2.mono HB1.out.size))
       clear hb2
       obtain⟨d7,fI⟩:=jT.out w2 HB2.out
       obtain⟨_,_,_,f2⟩:=HIT.out w2 HB2.out
       have mK:=Lib.hid fI
       have HA2:=Lib.hid (HH.out.below HB2.out (Nat.le_refl _))
       have TV:Hid (∀w3,MapAt dN w3 (nb d) (dF dN.lt nm (.int .i64 id) (cO x))→w2.mapTurned w3 (nb d)→aO g D w3 p mb ib nb (setName T d nm id)∧w3.cell? ⟨ib id,2,none⟩=some (.int .i64 y.links)∧w3.frozen? ⟨ib id,2,none⟩=false∧aj id (setName T d nm id)=some y):=fun w3 hM Qs=>by
        have h3:=HA2.out.set (id:=id) HX.out BM.out hM Qs
        have hy3:aj id (setName T d nm id)=some y:=by unfold setName;rw[bq,if_neg YK.out];exact HY.out
        exact⟨h3,(h3.item id y hy3).cell.2.2.1,(h3.item id y hy3).frozen 2,hy3⟩
       clear fI
       go_wp2_with (first|(at_lookup;refine aJ dN rfl _ _ 112 3 rfl Tryz.underlying112 (Tryz.fq _) rfl mK.out nm rfl kN ?_;rw[tF.out])|(at_mapUpdate;refine iI dN rfl _ _ _ 112 3 rfl Tryz.underlying112 rfl mK.out TR.out nm (.int .i64 id) rfl rfl kN ?_;intro w5 TS M6;obtain⟨ED,g2,ME,hy5⟩:=TV.out w5 TS M6;have TW:=Lib.hid ED;have HY5:=Lib.hid hy5;have Cy:=Lib.hid M6;clear ED TS M6 hy5))
       go_ret
       rw[HM.out]
       have ED:=TW.out
       have hgi:=HH.out.nY id y HY.out
       have hgd:=HH.out.kZ d x HX.out BM.out
       refine Turn.of rfl (ED.fields HY5.out (fun x=>{x with links:=x.links+1}) rfl rfl rfl (Keeps.jm w5 ⟨ib id,2,none⟩ _) (by rw[size_set]) fun a c hc=>by rw[dL hc];rfl) ?_
       have k1:Keeps (fun b=>g b≠ .none) w w2:=(Keeps.below HB2.out).mono fun b hb hb'=>absurd hb (by omega)
       have k2:Keeps (fun b=>g b≠ .none) w2 w5:=(gW Cy.out).mono fun b _ hb=>by rw[show b=nb d from hb,hgd];simp
       have k3:Keeps (fun b=>g b≠ .none) w5 (w5.setCell ⟨ib id,2,none⟩ (.int .i64 (y.links+1))):=(Keeps.jm w5 ⟨ib id,2,none⟩ _).mono fun b _ hb=>by rw[show b=ib id from hb,hgi];simp
       exact(k1.trans k2 (fun _ _ h=>h)).trans k3 (fun _ _ h=>h)
    ·have hne:((aI T ls').2.2==0)=false:=by simpa using hp
     have hne2:((aI T ls').2.2 !=0)=true:=by simpa using hp
     have HM:Hid (eD T ls ls'=((aI T ls').2.2,T)):=by
      have:ku T ls ls'=(aI T ls').2.2:=by
       unfold ku
       rw[if_neg (by rw[zD.out];simp),←HQ.out,if_neg (by simp),if_neg (by rw[bQ HY.out];exact hk),if_pos hp]
      unfold eD;rw[this,if_neg hp];exact rfl
     have HP:=Lib.hid hp
     unfold nZ at uj
     generalize aI T ls'=q at*
     clear hp hk
     go_enter Tryz.func17,Tryz.ntmps17
     go_wp2_with fail
     (with_reducible refine HF.out.mono ?_)
     rintro e w1 ⟨rfl,hb1⟩
     have HB1:=Lib.hid hb1
     clear hb1
     go_wp2_with fail
     (with_reducible refine(mZ.out w1 HB1.out).mono ?_)
     rintro e w2 ⟨rfl,rfl⟩
     obtain⟨c0,hmap,c1,c2⟩:=HIT.out w1 HB1.out
     have gG:=Lib.hid hmap
     clear hmap
     go_wp2_with (first|(at_lookup;refine aW bC rfl _ _ 101 99 rfl Tryz.underlying101 (Tryz.bA _) rfl gG.out id rfl hok ?_;rw[HG.out]))
     (with_reducible refine(uj.out w1 HB1.out).mono ?_)
     rintro e w2 ⟨rfl,hb2⟩
     rw[if_neg HP.out]
     have HB2:=Lib.hid (HB1.out.trans (hb2.mono HB1.out.size))
     clear hb2
     go_wp2_with fail
     go_ret
     rw[HM.out]
     exact Turn.same HH.out HB2.out rfl
  ·have hne:(e0==0)=false:=by simpa using he
   have hne2:(e0 !=0)=true:=by simpa using he
   have HM:Hid (eD T ls ls'=(e0,T)):=by
    have:ku T ls ls'=e0:=by
     unfold ku
     rw[if_neg (by rw[zD.out];simp),←HQ.out,if_pos he]
    unfold eD;rw[this,if_neg he];exact rfl
   clear he
   go_enter Tryz.func17,Tryz.ntmps17
   go_wp2_with fail
   (with_reducible refine HF.out.mono ?_)
   rintro e w1 ⟨rfl,hb1⟩
   have HB1:=Lib.hid hb1
   clear hb1
   go_wp2_with fail
   (with_reducible refine(mZ.out w1 HB1.out).mono ?_)
   rintro e w2 ⟨rfl,rfl⟩
   go_wp2_with fail
   go_ret
   rw[HM.out]
   exact Turn.same HH.out HB1.out rfl
 ·have HM:Hid (eD T ls ls'=(je ls ls',T)):=by
   have:ku T ls ls'=je ls ls':=by unfold ku;rw[if_pos hf]
   unfold eD;rw[this,if_neg hf];exact rfl
  have hne:(je ls ls'==0)=false:=by simpa using hf
  have hne2:(je ls ls' !=0)=true:=by simpa using hf
  clear hf
  go_enter Tryz.func17,Tryz.ntmps17
  go_wp2_with fail
  (with_reducible refine HF.out.mono ?_)
  rintro e w1 ⟨rfl,hb1⟩
  go_wp2_with fail
  go_ret
  rw[HM.out]
  exact Turn.same HH.out hb1 rfl
end
theorem dX.del {T:aG} (h:dX T) {k:Int} {x:bW} (hx:aj k T=some x) (h0:k≠0) (hn:x.names=[]) (hc:gy T k=0):dX (bR k T):=by
 have hget:∀j y,aj j (bR k T)=some y→j≠k∧aj j T=some y:=fun j y hy=>by
  rw[fO]at hy
  by_cases hj:j=k
  ·rw[if_pos hj]at hy;cases hy
  ·rw[if_neg hj]at hy;exact⟨hj,hy⟩
 have hcn:∀j,cn j x=0:=fun j=>by unfold cn;rw[hn];rfl
 refine⟨⟨h.sorted.bR _,?_,fun j y hy=>h.each j y (hget j y hy).2,fun j y hy e he=> ?_,?_,fun j y hy=>h.ids j y (hget j y hy).2⟩,fun j y hy hj=> ?_⟩
 ·have hr:=h.root
  unfold bO at hr⊢
  rw[fO,if_neg (Ne.symm h0)]
  exact hr
 ·have h1:=h.leads j y (hget j y hy).2 e he
  have h2:=yZ hc (hget j y hy).2 e he
  rw[fO,if_neg h2]
  exact h1
 ·have:=rV dU h.sorted hx
  have:=h.len
  omega
 ·have h1:=wY h.sorted hx j
  rw[hcn]at h1
  have h2:=h.counts j y (hget j y hy).2 hj
  omega
theorem dX.settle {T:aG} (h:dX T) {k:Int} (hk:k≠0) (hf:∀x,aj k T=some x→x.kind≠2):dX (fT T k):=by
 unfold fT
 cases hx:aj k T with
 |none=>exact h
 |some x=>
  simp only
  by_cases hc:x.links=0∧x.closed=true
  ·rw[if_pos hc]
   have hk1:=(h.each k x hx).kind.resolve_right (hf x hx)
   refine h.del hx hk ((h.each k x hx).file hk1) ?_
   have:=h.counts k x hx hk
   omega
  ·rw[if_neg hc];exact h
theorem dX.tK {T:aG} (h:dX T) {k:Int} {x:bW} (hx:aj k T=some x) (hk:x.kind≠2):k≠0:=by
 rintro rfl
 have:=h.root
 unfold bO at this
 rw[hx]at this
 exact hk this
theorem zH {T:aG} (hT:dX T) {ls:List Nm} {kind:Int} (h:jP T ls kind=0):bS ls=0∧(kind=1∨kind=2)∧(aI T ls).2.2=0∧aj (aI T ls).2.1 (aX T (aI T ls).1)=none∧T.length<64:=by
 unfold jP at h
 by_cases h1:bS ls≠0
 ·rw[if_pos h1]at h;exact absurd h h1
 ·rw[if_neg h1]at h
  by_cases h2:¬(kind=1∨kind=2)
  ·rw[if_pos h2]at h;cases h
  ·rw[if_neg h2]at h
   by_cases h3:(aI T ls).2.2≠0
   ·rw[if_pos h3]at h;exact absurd h h3
   ·rw[if_neg h3]at h
    by_cases h4:(aj (aI T ls).2.1 (aX T (aI T ls).1)).isSome=true
    ·rw[if_pos h4]at h;cases h
    ·rw[if_neg h4]at h
     by_cases h5:64≤T.length
     ·rw[if_pos h5]at h;cases h
     ·exact⟨by omega,Decidable.not_not.1 h2,by omega,by simpa using h4,by omega⟩
theorem dX.dP {T:aG} (h:dX T) (ls:List Nm) (kind:Int):dX (dP T ls kind).2:=by
 unfold Go.Proofs.YtmabllemjkcobaaGreat.dP
 by_cases he:jP T ls kind=0
 ·rw[if_pos he]
  obtain⟨h1,h2,h3,h4,h5⟩:=zH h he
  obtain⟨x,hx,hk,hm⟩:=ig h h3
  obtain⟨f,hf,hf1,hf2,hfn,_⟩:=h.free
  have e1:aX T (aI T ls).1=x.names:=by unfold aX;rw[hx]
  rw[e1]at h4
  have hlen:=h.len
  show dX (rW T ls kind)
  unfold rW
  rw[hf]
  exact h.make h2 hfn (by omega) (by omega) h5 hx hk (iR h1 _ hm) h4
 ·rw[if_neg he];exact h
theorem dX.dh {T:aG} (h:dX T) (id:Int) (b:List UInt8):dX (dh T id b).2:=by
 unfold Go.Proofs.YtmabllemjkcobaaGreat.dh
 by_cases he:j4 T id b=0
 ·simp only[if_pos he]
  unfold j4 at he
  cases hx:aj id T with
  |none=>rw[hx]at he;cases he
  |some x=>
   rw[hx]at he
   simp only at he
   by_cases hk:x.kind=2
   ·rw[if_pos hk]at he;cases he
   ·rw[if_neg hk]at he
    cases hc:x.closed with
    |true=>rw[hc]at he;cases he
    |false=>
     rw[hc]at he
     simp only[Bool.false_eq_true,if_false]at he
     by_cases hb:4096<x.b.length+b.length
     ·rw[if_pos hb]at he;cases he
     ·have ho:=h.each id x hx
      exact h.wZ hx ⟨ho.kind,ho.file,fun h=>absurd h hk,fun _=>hc,ho.sorted,ho.good,by rw[List.length_append];omega,ho.links,ho.aQ⟩ rfl rfl rfl
 ·simp only[if_neg he];exact h
theorem dX.fA {T:aG} (h:dX T) (id aQ:Int) (h0:0≤aQ):dX (fA T id aQ).2:=by
 unfold Go.Proofs.YtmabllemjkcobaaGreat.fA
 by_cases he:rz T id aQ=0
 ·simp only[if_pos he]
  unfold rz at he
  cases hx:aj id T with
  |none=>rw[hx]at he;cases he
  |some x=>
   rw[hx]at he
   simp only at he
   by_cases hk:x.kind=2
   ·rw[if_pos hk]at he;cases he
   ·rw[if_neg hk]at he
    cases hc:x.closed with
    |true=>rw[hc]at he;cases he
    |false=>
     rw[hc]at he
     simp only[Bool.false_eq_true,if_false]at he
     by_cases hb:1099511627776<aQ
     ·rw[if_pos hb]at he;cases he
     ·have ho:=h.each id x hx
      have hk1:=ho.kind.resolve_right hk
      have hcnt:=h.counts id x hx (h.tK hx hk)
      by_cases hl:x.links=0
      ·have hn:=ho.file hk1
       have e:fT (Go.Proofs.YtmabllemjkcobaaGreat.bH id (fun x=>{x with closed:=true,aQ:=aQ}) T) id=bR id T:=by
        unfold fT
        rw[bq,if_pos rfl,hx]
        simp only[Option.map_some,hl,and_self,if_true]
        unfold bR Go.Proofs.YtmabllemjkcobaaGreat.bH
        clear hx ho hcnt he h
        induction T with
        |nil=>rfl
        |cons y r ih=>
         rw[List.map_cons,List.filter_cons,List.filter_cons,ih]
         by_cases hy:y.1=id<;>simp[hy]
       rw[e]
       exact h.del hx (h.tK hx hk) hn (by omega)
      ·have hs:dX (Go.Proofs.YtmabllemjkcobaaGreat.bH id (fun x=>{x with closed:=true,aQ:=aQ}) T):=
        h.wZ hx ⟨ho.kind,ho.file,fun h=>absurd h hk,fun h=>absurd h hl,ho.sorted,ho.good,ho.size,ho.links,⟨h0,by simp only;omega⟩⟩ rfl rfl rfl
       exact hs.settle (h.tK hx hk) (fun y hy=>by
        rw[bq,if_pos rfl,hx]at hy
        simp only[Option.map_some,Option.some.injEq]at hy
        rw[←hy]
        exact hk)
 ·simp only[if_neg he];exact h
theorem dX.eU {T:aG} (h:dX T) (id aQ:Int) (h0:0≤aQ):dX (eU T id aQ).2:=by
 unfold Go.Proofs.YtmabllemjkcobaaGreat.eU
 by_cases he:rA T id aQ=0
 ·simp only[if_pos he]
  unfold rA at he
  cases hx:aj id T with
  |none=>rw[hx]at he;cases he
  |some x=>
   rw[hx]at he
   simp only at he
   by_cases hk:x.kind=2
   ·rw[if_pos hk]at he;cases he
   ·rw[if_neg hk]at he
    by_cases hc:x.closed=false
    ·rw[if_pos hc]at he;cases he
    ·rw[if_neg hc]at he
     by_cases hb:aQ<x.aQ
     ·rw[if_pos hb]at he;cases he
     ·rw[if_neg hb]at he
      by_cases hb:1099511627776<aQ
      ·rw[if_pos hb]at he;cases he
      ·have ho:=h.each id x hx
       exact h.wZ hx ⟨ho.kind,ho.file,fun h=>absurd h hk,ho.gone,ho.sorted,ho.good,ho.size,ho.links,⟨h0,by simp only;omega⟩⟩ rfl rfl rfl
 ·simp only[if_neg he];exact h
theorem zI {T:aG} {p tq:List Nm} (h:ku T p tq=0):je p tq=0∧(aH T 0 p).2=0∧bO T (aH T 0 p).1≠2∧(aI T tq).2.2=0∧aj (aI T tq).2.1 (aX T (aI T tq).1)=none∧qI T (aH T 0 p).1<64:=by
 unfold ku at h
 by_cases h1:je p tq≠0
 ·rw[if_pos h1]at h;exact absurd h h1
 ·rw[if_neg h1]at h
  by_cases h2:(aH T 0 p).2≠0
  ·rw[if_pos h2]at h;exact absurd h h2
  ·rw[if_neg h2]at h
   by_cases h3:bO T (aH T 0 p).1=2
   ·rw[if_pos h3]at h;cases h
   ·rw[if_neg h3]at h
    by_cases h4:(aI T tq).2.2≠0
    ·rw[if_pos h4]at h;exact absurd h h4
    ·rw[if_neg h4]at h
     by_cases h5:(aj (aI T tq).2.1 (aX T (aI T tq).1)).isSome=true
     ·rw[if_pos h5]at h;cases h
     ·rw[if_neg h5]at h
      by_cases h6:64≤qI T (aH T 0 p).1
      ·rw[if_pos h6]at h;cases h
      ·exact⟨by omega,by omega,h3,by omega,by simpa using h5,by omega⟩
theorem oh {p q:List Nm} (h:je p q=0):bS p=0∧bS q=0:=by
 unfold je at h
 split at h
 ·rename_i h1;exact absurd h h1
 ·exact⟨by omega,h⟩
theorem dX.eD {T:aG} (h:dX T) (p tq:List Nm):dX (eD T p tq).2:=by
 unfold Go.Proofs.YtmabllemjkcobaaGreat.eD
 by_cases he:ku T p tq=0
 ·simp only[if_pos he]
  obtain⟨h1,h2,h3,h4,h5,h6⟩:=zI he
  obtain⟨x,hx,hk,hm⟩:=ig h h4
  obtain⟨y,hy⟩:=Option.isSome_iff_exists.1 (fP h p 0 (eF h) h2)
  have e1:aX T (aI T tq).1=x.names:=by unfold aX;rw[hx]
  have e2:qI T (aH T 0 p).1=y.links:=by unfold qI;rw[hy]
  rw[e1]at h5
  rw[e2]at h6
  rw[bQ hy]at h3
  exact h.link hx hk (iR (oh h1).2 _ hm) h5 hy h3 h6 (h.tK hy h3)
 ·simp only[if_neg he];exact h
def Fa (W:World) (P:Nat→Prop) (x:Nat):Prop:=W.heap.size≤x∧¬P x
structure dS (W:World) (P:Nat→Prop) (w:World) (p:Nat) (T:aG):Prop where
 at_:∃g D mb ib nb,aO g D w p mb ib nb T∧∀b,g b≠ .none∨D b→W.heap.size≤b∧¬P b
 ok:dX T
 below:Below W.heap.size W w
 low:∀x,P x→x<w.heap.size
theorem dS.grow {W w w':World} {P:Nat→Prop} {p:Nat} {T:aG} (h:dS W P w p T) (hb:Below w.heap.size w w'):dS W P w' p T:=by
 obtain⟨g,D,mb,ib,nb,hA,hF⟩:=h.at_
 exact⟨⟨g,D,mb,ib,nb,hA.below hb (Nat.le_refl _),hF⟩,h.ok,h.below.trans (hb.mono h.below.size),fun x hx=>Nat.lt_of_lt_of_le (h.low x hx) hb.size⟩
theorem dS.zJ {W w w':World} {P:Nat→Prop} {p:Nat} {T:aG} (h:dS W P w p T) (hb:Below w.heap.size w w'):dS W (fun x=>P x∨(w.heap.size≤x∧x<w'.heap.size)) w' p T:=by
 have h1:=h.grow hb
 obtain⟨g,D,mb,ib,nb,hA,hF⟩:=h.at_
 refine⟨⟨g,D,mb,ib,nb,hA.below hb (Nat.le_refl _),fun x hx=>⟨(hF x hx).1,fun hp=> ?_⟩⟩,h.ok,h1.below,fun x hx=> ?_⟩
 ·rcases hp with hp|hp
  ·exact(hF x hx).2 hp
  ·rcases hx with hx|hx
   ·have:=hA.low x hx;omega
   ·have:=hA.pY x hx;omega
 ·rcases hx with hx|hx
  ·exact h1.low x hx
  ·exact hx.2
theorem dS.mono {W w:World} {P Q:Nat→Prop} {p:Nat} {T:aG} (h:dS W P w p T) (hq:∀x,Q x→P x):dS W Q w p T:=by
 obtain⟨g,D,mb,ib,nb,hA,hF⟩:=h.at_
 exact⟨⟨g,D,mb,ib,nb,hA,fun x hx=>⟨(hF x hx).1,fun h=>(hF x hx).2 (hq x h)⟩⟩,h.ok,h.below,fun x hx=>h.low x (hq x hx)⟩
def fB (W:World) (P:Nat→Prop) (w:World) (p:Nat) (T:aG) (v:Value) (e:Ending) (w':World):Prop:=
 e= .returned v∧dS W P w' p T∧Keeps (Fa W P) w w'
theorem dS.nk {W w w':World} {P:Nat→Prop} {p mb:Nat} {T':aG} {v:Value} {e:Ending} {g:Nat→Own} {D:Nat→Prop} (hF:∀b,g b≠ .none∨D b→W.heap.size≤b∧¬P b) (hB:Below W.heap.size W w) (hP:∀x,P x→x<w.heap.size) (ht:Turn g D w p mb T' v e w') (hok:dX T'):fB W P w p T' v e w':=by
 obtain⟨rfl,g',D',SG,nb',hA',hg',hD',hK⟩:=ht
 have hs:=hB.size
 refine⟨rfl,⟨⟨g',D',mb,SG,nb',hA',fun b hb=> ?_⟩,hok,hB.trans (hK.jl hs fun x hx hgx=>by have:=(hF x (.inl hgx)).1;omega),fun x hx=>Nat.lt_of_lt_of_le (hP x hx) hK.size⟩,hK.mono fun x _ hx=>hF x (.inl hx)⟩
 have key:(g b≠ .none∨D b)∨w.heap.size≤b:=by
  rcases hb with hb|hb
  ·rcases hg' b hb with h|h
   ·exact .inl (.inl h)
   ·exact .inr h
  ·rcases hD' b hb with h|h
   ·exact .inl (.inr h)
   ·exact .inr h
 rcases key with h|h
 ·exact hF b h
 ·exact⟨by omega,fun hp=>by have:=hP b hp;omega⟩
section
variable {W w:World} {P:Nat→Prop} {p:Nat} {T:aG}
theorem D6 {S:Nat→Prop} (h:dS W P w p T) (a:Option Addr) (n c:Nat) (ls:List Nm) (kind:Int) (hS:aK S w a n (ls.map strOf)) (hc:n≤c) (kV:n≤1000000):
  Calls Tryz.prog 13 #[ptr p, .slice a n c, .int .i64 kind] w (fB W P w p (dP T ls kind).2 (.tuple #[.int .i64 (dP T ls kind).1.1, .int .i64 (dP T ls kind).1.2])):=by
 obtain⟨g,D,mb,ib,nb,hA,hF⟩:=h.at_
 exact(JN a n c ls kind w hA h.ok hS hc kV).mono fun e w' ht=>dS.nk hF h.below h.low ht (h.ok.dP _ _)
theorem JV {S S':Nat→Prop} (h:dS W P w p T) (a:Option Addr) (n c:Nat) (ls:List Nm) (a':Option Addr) (n' c':Nat) (ls':List Nm) (hS:aK S w a n (ls.map strOf)) (hS':aK S' w a' n' (ls'.map strOf)) (hc':n'≤c') (kV:n'≤1000000):
  Calls Tryz.prog 17 #[ptr p, .slice a n c, .slice a' n' c'] w (fB W P w p (eD T ls ls').2 (.int .i64 (eD T ls ls').1)):=by
 obtain⟨g,D,mb,ib,nb,hA,hF⟩:=h.at_
 exact(JU a n c ls a' n' c' ls' w hA h.ok hS hS' hc' kV).mono fun e w' ht=>dS.nk hF h.below h.low ht (h.ok.eD _ _)
theorem KU {S:Nat→Prop} (h:dS W P w p T) (id:Int) (a:Option Addr) (l c:Nat) (bs:List UInt8) (hid:(Lit.int .i64 id).wf=true) (hr:aC S w a l (bs.map bv)) (hl:l≤1000000000):
  Calls Tryz.prog 21 #[ptr p, .int .i64 id, .slice a l c] w (fB W P w p (dh T id bs).2 (.int .i64 (dh T id bs).1)):=by
 obtain⟨g,D,mb,ib,nb,hA,hF⟩:=h.at_
 exact(Cx id a l c bs w hA (fun x hx=>(h.ok.each id x hx).size) hid hr hl).mono fun e w' ht=>dS.nk hF h.below h.low ht (h.ok.dh _ _)
theorem Qt (h:dS W P w p T) (id aQ:Int) (hid:(Lit.int .i64 id).wf=true) (ht0:0≤aQ) (ht1:aQ≤18446744073709551615):
  Calls Tryz.prog 24 #[ptr p, .int .i64 id, .int .u64 aQ] w (fB W P w p (fA T id aQ).2 (.int .i64 (fA T id aQ).1)):=by
 obtain⟨g,D,mb,ib,nb,hA,hF⟩:=h.at_
 exact(JO id aQ w hA hid ht0 ht1).mono fun e w' ht=>dS.nk hF h.below h.low ht (h.ok.fA _ _ ht0)
theorem Qu (h:dS W P w p T) (id aQ:Int) (hid:(Lit.int .i64 id).wf=true) (ht0:0≤aQ) (ht1:aQ≤18446744073709551615):
  Calls Tryz.prog 26 #[ptr p, .int .i64 id, .int .u64 aQ] w (fB W P w p (eU T id aQ).2 (.int .i64 (eU T id aQ).1)):=by
 obtain⟨g,D,mb,ib,nb,hA,hF⟩:=h.at_
 exact(JQ id aQ w hA hid ht0 ht1 (fun x hx=>(h.ok.each id x hx).aQ)).mono fun e w' ht=>dS.nk hF h.below h.low ht (h.ok.eU _ _ ht0)
theorem Qv (h:dS W P w p T) (id at_ n:Int) (hid:(Lit.int .i64 id).wf=true) (hA:(Lit.int .i64 at_).wf=true) (hN:(Lit.int .i64 n).wf=true):
  Calls Tryz.prog 28 #[ptr p, .int .i64 id, .int .i64 at_, .int .i64 n] w (tJ w (nX T id at_ n) (nW T id at_ n)):=by
 obtain⟨g,D,mb,ib,nb,hAt,hF⟩:=h.at_
 exact E_ id at_ n w hAt (fun x hx=>(h.ok.each id x hx).size) hid hA hN
theorem JW (h:dS W P w p T) (id:Int) (hid:(Lit.int .i64 id).wf=true):
  Calls Tryz.prog 99 #[ptr p, .int .i64 id] w fun e w'=>e= .returned (.tuple #[jf T id, .bool (aj id T).isSome])∧Below w.heap.size w w':=by
 obtain⟨g,D,mb,ib,nb,hAt,hF⟩:=h.at_
 exact EZ id w hAt hid
theorem Fb (h:dS W P w p T):Calls Tryz.prog 49 #[ptr p] w fun e w'=>e= .returned (.int .i64 T.length)∧w=w':=by
 obtain⟨g,D,mb,ib,nb,hAt,hF⟩:=h.at_
 exact Ct w hAt
theorem Ih (W w:World) (hB:Below W.heap.size W w):Calls Tryz.prog 11 #[] w fun e w'=>∃p,e= .returned (ptr p)∧dS W (fun x=>x<w.heap.size) w' p l9∧Below w.heap.size w w':=by
 refine(Qq w).mono ?_
 rintro e w' ⟨g,mb,ib,nb,p,rfl,hA,hg,hb⟩
 have hs:=hB.size
 refine⟨p,rfl,⟨⟨g,_,mb,ib,nb,hA,fun b hb=> ?_⟩,JR,hB.trans (hb.mono hs),fun x hx=>Nat.lt_of_lt_of_le hx hb.size⟩,hb⟩
 rcases hb with hb|hb
 ·have:=hg b hb;omega
 ·exact hb.elim
end
end Go.Proofs.YtmabllemjkcobaaGreat
