/- tree: New; Drop refused. tree: Link. A law's own tree, beside what else is the law's. Marks on blocks: whose they are; a tree whose own blocks bear one mark, and its bytes none. -/
import Derived.Test.YtmabllemjkcobaaGreatDoorM12
namespace Go.Proofs.YtmabllemjkcobaaGreatDoor
open Go.ChangeShapes Go.WideShapes Go.ChangeAt Go.RowKit
set_option linter.unusedVariables false
set_option linter.unusedSimpArgs false
def newG (B b:Nat):Own:=if b=B then .items else if b=B+1 then .item 0 else if b=B+2 then .names 0 else .none
theorem PG {w w1 w2:World} (hi:iA (fun _=>False) w1 0 (w.heap.size+1) (w.heap.size+1+1) (dO 2)) (hb:Below (w.heap.size+1) (w.alloc (.map #[] 0)) w1) (hs:w.heap.size+1+1<w1.heap.size)
  (hM:MapAt aP w2 w.heap.size (cO aP.lt 0 (ptr (w.heap.size+1)) [])) (hT:w1.mapTurned w2 w.heap.size):
  aC (fun b=>if b=w2.heap.size then .head else newG w.heap.size b) (fun _=>False) (w2.alloc (.cells #[.map (some w.heap.size)] 97)) w2.heap.size w.heap.size (fun _=>w.heap.size+1) (fun _=>w.heap.size+2) uF∧Below w.heap.size w (w2.alloc (.cells #[.map (some w.heap.size)] 97)):=by
 have hsz:=gQ hT
 have hK:=eu hT
 have hw3:∀b,b<w2.heap.size→(w2.alloc (.cells #[.map (some w.heap.size)] 97)).heap[b]? =w2.heap[b]? :=fun b hb=>Below.heap_alloc _ _ _ hb
 have hget:∀k x,ah k uF=some x→k=0∧x=dO 2:=fun k x h=>by
  unfold uF at h
  rw[fB]at h
  by_cases hk:(0:Int)=k
  ·rw[if_pos hk]at h;exact⟨hk.symm,by cases h;rfl⟩
  ·rw[if_neg hk]at h;cases h
 have hB0:Below w.heap.size w (w.alloc (.map #[] 0)):=wall w _
 constructor
 ·refine⟨(MapKept.heap_alloc w2 _).1,?_,fun k x hx=> ?_,by simp,?_,fun k x hx=> ?_,fun k x hx _=> ?_,fun _ h=>h.elim,fun b hb=> ?_,fun _ h=>h.elim⟩
  ·have:=hM.kept (hw3 _ (by omega))
   exact this
  ·obtain⟨rfl,rfl⟩:=hget k x hx
   refine hi.move (by simp;omega) ?_ (fun _=> ?_) (fun _ h=>h.elim)
   ·rw[hw3 _ (by omega),hK.block _ (by omega) (by omega)]
   ·rw[hw3 _ (by omega),hK.block _ (by omega) (by omega)]
  ·rw[if_neg (by omega)];simp[newG]
  ·obtain⟨rfl,rfl⟩:=hget k x hx
   rw[if_neg (by omega)];simp[newG]
  ·obtain⟨rfl,rfl⟩:=hget k x hx
   rw[if_neg (by omega)];simp[newG]
  ·rw[World.size_alloc]
   by_cases h1:b=w2.heap.size
   ·omega
   ·rw[if_neg h1]at hb
    unfold newG at hb
    by_cases h2:b=w.heap.size
    ·omega
    ·by_cases h3:b=w.heap.size+1
     ·omega
     ·by_cases h4:b=w.heap.size+2
      ·omega
      ·simp[h2,h3,h4]at hb
 ·refine(hB0.trans (hb.mono (by omega))).trans ⟨hK.os,hK.tape,hK.output,by rw[World.size_alloc];omega,fun b hbw=> ?_⟩
  have:=hb.size
  rw[World.size_alloc]at this
  rw[hw3 _ (by omega),hK.block _ (by omega) (by omega)]
set_option maxHeartbeats 1000000 in
theorem PI (w:World):Calls Tryz.prog 32 #[] w fun e w'=>∃g mb ib nb p,e= .returned (ptr p)∧aC g (fun _=>False) w' p mb ib nb uF∧(∀b,g b≠ .none→w.heap.size≤b)∧Below w.heap.size w w':=by
 have hmm:= @run_makeMap Tryz.prog
 have HST:Hid (∀w1,Below (w.heap.size+1) (w.alloc (.map #[] 0)) w1→∃w2,(Instr.mapUpdate 95 (.map (some w.heap.size)) (.int .i64 0) (ptr (w.heap.size+1))).run Tryz.prog w1= .ok () w2∧MapAt aP w2 w.heap.size (cO aP.lt 0 (ptr (w.heap.size+1)) [])∧w1.mapTurned w2 w.heap.size):=fun w1 hb=>by
  have hm1:MapAt aP w1 w.heap.size []:=(MapAt.made (F:=aP) w).kept (hb.block _ (by omega))
  exact hm1.oC aP Tryz.underlying95 (by show 0<maxLen;unfold maxLen;omega) 0 _ (gB (by omega) (by omega))
 go_enter Tryz.func32,Tryz.ntmps32
 go_wp2_with fail
 (with_reducible refine(uN _ _ _).mono ?_)
 rintro e w1 ⟨rfl,hi1,hb1,hs1,hs2⟩
 rw[World.size_alloc]at hi1 hb1 hs1 hs2
 obtain⟨w2,hrun2,hM2,LC⟩:=HST.out w1 hb1
 have HI1:=Lib.hid hi1
 have HB1:=Lib.hid hb1
 have vO:=Lib.hid hM2
 have HT2:=Lib.hid LC
 have hs3:=hs2 rfl
 clear hi1 hb1 hM2 LC hs2
 go_wp2_with fail
 go_ret
 obtain⟨h1,h2⟩:=PG HI1.out HB1.out hs3 vO.out HT2.out
 refine⟨_,_,_,_,_,rfl,h1,fun b hb=> ?_,h2⟩
 have h3:=HB1.out.size
 rw[World.size_alloc]at h3
 have h4:=gQ HT2.out
 by_cases e1:b=w2.heap.size
 ·omega
 ·rw[if_neg e1]at hb
  unfold newG at hb
  by_cases e2:b=w.heap.size
  ·omega
  ·by_cases e3:b=w.heap.size+1
   ·omega
   ·by_cases e4:b=w.heap.size+2
    ·omega
    ·simp[e2,e3,e4]at hb
theorem PK:dI uF:=by
 have hget:∀k x,ah k uF=some x→k=0∧x=dO 2:=fun k x h=>by
  unfold uF at h
  rw[fB]at h
  by_cases hk:(0:Int)=k
  ·rw[if_pos hk]at h;exact⟨hk.symm,by cases h;rfl⟩
  ·rw[if_neg hk]at h;cases h
 refine⟨⟨by simp[uF,aN],rfl,fun k x hx=> ?_,fun k x hx e he=> ?_,by simp[uF],fun k x hx=> ?_⟩,fun k x hx hk=> ?_⟩
 ·obtain⟨rfl,rfl⟩:=hget k x hx;exact zO (.inr rfl)
 ·obtain⟨rfl,rfl⟩:=hget k x hx;cases he
 ·obtain⟨rfl,rfl⟩:=hget k x hx;omega
 ·exact absurd (hget k x hx).1 hk
section
variable {g:Nat→Own} {D:Nat→Prop} {p mb:Nat} {ib nb:Int→Nat} {T:aK}
set_option maxHeartbeats 1000000 in
theorem LD (id:Int) (hd:jy T id≠0) (w:World) (h:aC g D w p mb ib nb T) (hid:(Lit.int .i64 id).wf=true):
  Calls Tryz.prog 117 #[ptr p, .int .i64 id] w (Turn g D w p mb (fO T id).2 (.int .i64 (fO T id).1)):=by
 have HH:=Lib.hid h
 have hcb:(w.alloc (.cells #[.int .i64 id] 3)).cell? ⟨w.heap.size,0,none⟩=some (.int .i64 id):=jU
 have hA:=h.below (wall w (.cells #[.int .i64 id] 3)) (Nat.le_refl _)
 by_cases hf:fA T id=0
 ·obtain⟨x,hx,hk⟩:=mQ hf
  have HF:=Lib.hid (rD id hx hk _ hA hid)
  obtain⟨c0,c1,c2,c3,c4,c5,c7,hiw⟩:=(h.item id x hx).cell
  have hE:jy T id=if x.closed then 27 else 0:=by unfold jy;rw[hx];simp only[if_neg hk]
  cases hcl:x.closed with
  |false=>exact absurd (by rw[hE,hcl];rfl) hd
  |true=>
   have HM:Hid (fO T id=(27,T)):=by
    unfold fO
    rw[hE,hcl];simp only[if_pos];exact rfl
   rw[hcl]at c5
   clear hE hcl hx hk hf h c7 hA hd
   go_enter Tryz.func117,Tryz.ntmps117
   go_wp2_with fail
   (with_reducible refine HF.out.mono ?_)
   rintro e w1 ⟨rfl,rfl⟩
   go_wp2_with fail
   go_ret
   rw[HM.out]
   exact Turn.same HH.out (wall w _) rfl
 ·have hne:(fA T id==0)=false:=by simpa using hf
  have HF:=Lib.hid (qJ id _ rfl hf _ hA hid)
  have HM:Hid (fO T id=(fA T id,T)):=by
   unfold fO
   rw[Jb hf,if_neg hf];exact rfl
  obtain⟨k,hk⟩:∃k,k=fA T id:=⟨_,rfl⟩
  rw[←hk]at HF hne HM
  clear hf h hk hA hd
  go_enter Tryz.func117,Tryz.ntmps117
  go_wp2_with fail
  (with_reducible refine HF.out.mono ?_)
  rintro e w1 ⟨rfl,rfl⟩
  go_wp2_with fail
  go_ret
  rw[HM.out]
  exact Turn.same HH.out (wall w _) rfl
end
section
variable {g:Nat→Own} {D:Nat→Prop} {p mb:Nat} {ib nb:Int→Nat} {T:aK}
theorem bR {id:Int} {x:eB} (hx:ah id T=some x):bB T id=x.kind:=by unfold bB;rw[hx]
theorem dI.link (h:dI T) {d id:Int} {x y:eB} {n:Nm} (hx:ah d T=some x) (hxk:x.kind=2) (hn:dM n=true) (hnn:ah n x.names=none) (hy:ah id T=some y) (hyk:y.kind≠2) (hl:y.links<64) (h0:id≠0):
  dI (Go.Proofs.YtmabllemjkcobaaGreatDoor.bX id (fun x=>{x with links:=x.links+1}) (setName T d n id)):=by
 have hdi:id≠d:=fun e=>by subst e;rw[hx]at hy;cases hy;exact hyk hxk
 have hP:=h.tozl.set (n:=n) (id:=id) hx hxk hn ⟨by rw[hy];rfl,h0⟩
 have hy1:ah id (setName T d n id)=some y:=by unfold setName;rw[aV,if_neg hdi];exact hy
 have hoy:=h.each id y hy
 have hk1:y.kind=1:=hoy.kind.resolve_right hyk
 have hsame:cn id {y with links:=y.links+1}=cn id y:=rfl
 refine⟨hP.bX (f:=fun x=>{x with links:=x.links+1}) hy1 ⟨hoy.kind,hoy.file,fun h=>absurd h hyk,fun h=> ?_,hoy.sorted,hoy.good,hoy.size,?_,hoy.au⟩ rfl (hP.leads id y hy1),fun j z hz hj=> ?_⟩
 ·have:=hoy.links
  have h2:y.links+1=0:=h
  omega
 ·have:=hoy.links
  simp only
  omega
 ·have h1:=kV hP.sorted (fun x=>{x with links:=x.links+1}) hy1 j
  have h1':cn j {y with links:=y.links+1}=cn j y:=rfl
  have h2:=kV h.sorted (fun x=>{x with names:=cO bytesBefore n id x.names}) hx j
  have h3:=EM (id:=id) hnn j
  have e:fK (Go.Proofs.YtmabllemjkcobaaGreatDoor.bX id (fun x=>{x with links:=x.links+1}) (setName T d n id)) j=fK T j+if id=j then 1 else 0:=by
   unfold setName at h1⊢
   rw[h1']at h1
   omega
  rw[e]
  rw[aV]at hz
  by_cases hji:j=id
  ·subst hji
   rw[if_pos rfl,hy1]at hz
   simp only[Option.map_some,Option.some.injEq]at hz
   rw[←hz,if_pos rfl]
   have:=h.counts j y hy hj
   simp only
   omega
  ·rw[if_neg hji]at hz
   rw[if_neg (Ne.symm hji)]
   unfold setName at hz
   rw[aV]at hz
   by_cases hjd:j=d
   ·subst hjd
    rw[if_pos rfl,hx]at hz
    simp only[Option.map_some,Option.some.injEq]at hz
    have:=h.counts j x hx hj
    rw[←hz]
    simp only
    omega
   ·rw[if_neg hjd]at hz
    have:=h.counts j z hz hj
    omega
theorem mR {p:List Nm} {id:Int} (h:aD T 0 p=(id,0)) (hT:dI T):(ah id T).isSome=true:=by
 have:=jY hT p 0 (jT hT) (by rw[h])
 rw[h]at this
 exact this
set_option maxRecDepth 100000 in
set_option maxHeartbeats 8000000 in
theorem PL {S S':Nat→Prop} (a:Option Addr) (n c:Nat) (ls:List Nm) (a':Option Addr) (n' c':Nat) (ls':List Nm) (w:World) (h:aC g D w p mb ib nb T) (hT:dI T) (hS:aO S w a n (ls.map strOf)) (hS':aO S' w a' n' (ls'.map strOf)) (hc':n'≤c') (nD:n'≤1000000):
  Calls Tryz.prog 43 #[ptr p, .slice a n c, .slice a' n' c'] w (Turn g D w p mb (gy T ls ls').2 (.int .i64 (gy T ls ls').1)):=by
 have HH:=Lib.hid h
 have HT:=Lib.hid hT
 have HF:=Lib.hid (CO a n c ls a' n' c' ls' w hS hS')
 have mO:=Lib.hid (fun w1 (hb:Below w.heap.size w w1)=>oD a n c ls w1 (h.below hb (Nat.le_refl _)) hT (hS.below hb (Nat.le_refl _)))
 have sK:=Lib.hid (fun w1 (hb:Below w.heap.size w w1)=>rA a' n' c' ls' w1 (h.below hb (Nat.le_refl _)) hT (hS'.below hb (Nat.le_refl _)) hc' nD)
 clear h hT hS hS'
 by_cases hf:jX ls ls'=0
 ·have rT:=Lib.hid hf
  rw[hf]at HF
  clear hf
  obtain⟨⟨id,e0⟩,hq⟩:∃q,q=aD T 0 ls:=⟨_,rfl⟩
  have HQ:=Lib.hid hq
  rw[←hq]at mO
  clear hq
  by_cases he:e0=0
  ·subst he
   obtain⟨y,hy⟩:=Option.isSome_iff_exists.1 (mR HQ.out.symm HT.out)
   have HY:=Lib.hid hy
   have lS:=HT.out.ids id y hy
   have hok:aP.ok id:=gB lS.1 (by omega)
   have HG:Hid (ah id (T.map fun q=>(q.1,ptr (ib q.1)))=some (ptr (ib id))):=by rw[bZ,hy];rfl
   have HIT:Hid (∀w1,Below w.heap.size w w1→w1.cell? ⟨p,0,none⟩=some (.map (some mb))∧MapAt aP w1 mb (T.map fun q=>(q.1,ptr (ib q.1)))∧w1.cell? ⟨ib id,1,none⟩=some (.int .i64 y.kind)∧w1.cell? ⟨ib id,2,none⟩=some (.int .i64 y.links)):=fun w1 hb=>by
    have h2:=HH.out.below hb (Nat.le_refl _)
    obtain⟨_,c1,c2,_⟩:=(h2.item id y HY.out).cell
    exact⟨h2.cell.1,h2.map,c1,c2⟩
   clear hy
   by_cases hk:y.kind=2
   ·have HM:Hid (gy T ls ls'=(22,T)):=by
     have:l9 T ls ls'=22:=by
      unfold l9
      rw[if_neg (by rw[rT.out];simp),←HQ.out,if_neg (by simp),if_pos ((bR HY.out).trans hk)]
     unfold gy;rw[this,if_neg (by decide)];exact rfl
    go_enter Tryz.func43,Tryz.ntmps43
    go_wp2_with fail
    (with_reducible refine HF.out.mono ?_)
    rintro e w1 ⟨rfl,hb1⟩
    have HB1:=Lib.hid hb1
    clear hb1
    go_wp2_with fail
    (with_reducible refine(mO.out w1 HB1.out).mono ?_)
    rintro e w2 ⟨rfl,rfl⟩
    obtain⟨c0,hmap,c1,c2⟩:=HIT.out w1 HB1.out
    rw[hk]at c1
    have fU:=Lib.hid hmap
    clear hmap
    go_wp2_with (first|(at_lookup;refine aJ aP rfl _ _ 95 88 rfl Tryz.underlying95 (Tryz.aQ _) rfl fU.out id rfl hok ?_;rw[HG.out]))
    go_ret
    rw[HM.out]
    exact Turn.same HH.out HB1.out rfl
   ·have hkk:(y.kind==2)=false:=by simpa using hk
    by_cases hp:(aF T ls').2.2=0
    ·obtain⟨x,hx,hxk,hnm⟩:=iY HT.out hp
     have hgn:dM (aF T ls').2.1=true:=by
      have:bG ls'=0:=by
       have:=rT.out
       unfold jX at this
       split at this
       ·rename_i h1;exact absurd this h1
       ·exact this
      exact ig this _ hnm
     obtain⟨⟨d,nm,z⟩,hq⟩:∃q,q=aF T ls':=⟨_,rfl⟩
     unfold mP at sK
     rw[←hq]at hp hx hnm hgn sK
     obtain rfl:z=0:=hp
     have HQP:=Lib.hid hq
     have HX:=Lib.hid hx
     have CJ:=Lib.hid hgn
     have vN:=Lib.hid hxk
     have Td:=Lib.hid hk
     clear hq hx hgn hxk hnm hk
     have kE:bV.ok nm:=by
      have:=qH nm CJ.out
      show nm.length≤maxLen
      unfold maxLen;omega
     have I8:Hid (l9 T ls ls'=if (ah nm x.names).isSome then 21 else if 64≤y.links then 4 else 0):=by
      have e1:aM T d=x.names:=by unfold aM;rw[HX.out]
      have e2:rY T id=y.links:=by unfold rY;rw[HY.out]
      unfold l9
      rw[if_neg (by rw[rT.out];simp),←HQ.out,if_neg (by simp),if_neg (by rw[bR HY.out];exact Td.out),←HQP.out,if_neg (by simp),e1,e2]
      exact rfl
     have qI:Hid (∀w2,Below w.heap.size w w2→w2.cell? ⟨ib d,7,none⟩=some (.map (some (nb d)))∧MapAt bV w2 (nb d) (bC x)):=fun w2 hb=>by
      have h2:=HH.out.below hb (Nat.le_refl _)
      have hi:=h2.item d x HX.out
      obtain⟨_,_,_,_,_,_,c7,_⟩:=hi.cell
      unfold dH at c7
      rw[if_pos vN.out]at c7
      exact⟨c7,hi.names vN.out⟩
     cases hj:ah nm x.names with
     |some j=>
      have rC:Hid (ah nm (bC x)=some (.int .i64 j)):=by rw[dK,hj];rfl
      have HM:Hid (gy T ls ls'=(21,T)):=by
       unfold gy;rw[I8.out,hj];simp only[Option.isSome_some,if_true];exact rfl
      clear hj
      go_enter Tryz.func43,Tryz.ntmps43
      go_wp2_with fail
      (with_reducible refine HF.out.mono ?_)
      rintro e w1 ⟨rfl,hb1⟩
      have HB1:=Lib.hid hb1
      clear hb1
      go_wp2_with fail
      (with_reducible refine(mO.out w1 HB1.out).mono ?_)
      rintro e w2 ⟨rfl,rfl⟩
      obtain⟨c0,hmap,c1,c2⟩:=HIT.out w1 HB1.out
      have fU:=Lib.hid hmap
      clear hmap
      go_wp2_with (first|(at_lookup;refine aJ aP rfl _ _ 95 88 rfl Tryz.underlying95 (Tryz.aQ _) rfl fU.out id rfl hok ?_;rw[HG.out]))
      (with_reducible refine(sK.out w1 HB1.out).mono ?_)
      rintro e w2 ⟨rfl,hb2⟩
      (first|rw[if_pos rfl]|rw[if_pos trivial])
      have HB2:=Lib.hid (HB1.out.trans (hb2.mono HB1.out.size))
      clear hb2
      obtain⟨d7,eY⟩:=qI.out w2 HB2.out
      have mF:=Lib.hid eY
      clear eY
      go_wp2_with (at_lookup;refine aB bV rfl _ _ 92 3 rfl Tryz.underlying92 (Tryz.dU _) rfl mF.out nm rfl kE ?_;rw[rC.out])
      go_ret
      rw[HM.out]
      exact Turn.same HH.out HB2.out rfl
     |none=>
      have rC:Hid (ah nm (bC x)=none):=by rw[dK,hj];rfl
      have HJ:=Lib.hid hj
      clear hj
      by_cases h64:64≤y.links
      ·have HM:Hid (gy T ls ls'=(4,T)):=by
        unfold gy;rw[I8.out,HJ.out];simp only[Option.isSome_none,Bool.false_eq_true,if_false,if_pos h64];first|exact rfl|exact trivial
       have hd:decide ((64:Int)≤y.links)=true:=by simpa using h64
       go_enter Tryz.func43,Tryz.ntmps43
       go_wp2_with fail
       (with_reducible refine HF.out.mono ?_)
       rintro e w1 ⟨rfl,hb1⟩
       have HB1:=Lib.hid hb1
       clear hb1
       go_wp2_with fail
       (with_reducible refine(mO.out w1 HB1.out).mono ?_)
       rintro e w2 ⟨rfl,rfl⟩
       obtain⟨c0,hmap,c1,c2⟩:=HIT.out w1 HB1.out
       have fU:=Lib.hid hmap
       clear hmap
       go_wp2_with (first|(at_lookup;refine aJ aP rfl _ _ 95 88 rfl Tryz.underlying95 (Tryz.aQ _) rfl fU.out id rfl hok ?_;rw[HG.out]))
       (with_reducible refine(sK.out w1 HB1.out).mono ?_)
       rintro e w2 ⟨rfl,hb2⟩
       (first|rw[if_pos rfl]|rw[if_pos trivial])
       have HB2:=Lib.hid (HB1.out.trans (hb2.mono HB1.out.size))
       clear hb2
       obtain⟨d7,eY⟩:=qI.out w2 HB2.out
       obtain⟨_,_,_,f2⟩:=HIT.out w2 HB2.out
       have mF:=Lib.hid eY
       clear eY
       go_wp2_with (at_lookup;refine aB bV rfl _ _ 92 3 rfl Tryz.underlying92 (Tryz.dU _) rfl mF.out nm rfl kE ?_;rw[rC.out])
       go_ret
       rw[HM.out]
       exact Turn.same HH.out HB2.out rfl
      ·have HM:Hid (gy T ls ls'=(0,bX id (fun x=>{x with links:=x.links+1}) (setName T d nm id))):=by
        unfold gy EK;rw[I8.out,HJ.out,←HQP.out,←HQ.out];simp only[Option.isSome_none,Bool.false_eq_true,if_false,if_neg h64,if_pos];first|exact rfl|exact trivial
       have hd:decide ((64:Int)≤y.links)=false:=by simpa using h64
       have hln:=(HT.out.each id y HY.out).links
       have hdi:id≠d:=fun e=>by have h1:=HX.out;rw[←e,HY.out]at h1;cases h1;exact Td.out vN.out
       have YB:=Lib.hid hdi
       have sW:(bC x).length<maxLen:=by
        have h1:=HT.out.few HX.out
        unfold bC maxLen;rw[List.length_map];omega
       have Tc:=Lib.hid sW
       clear hdi sW
       go_enter Tryz.func43,Tryz.ntmps43
       go_wp2_with fail
       (with_reducible refine HF.out.mono ?_)
       rintro e w1 ⟨rfl,hb1⟩
       have HB1:=Lib.hid hb1
       clear hb1
       go_wp2_with fail
       (with_reducible refine(mO.out w1 HB1.out).mono ?_)
       rintro e w2 ⟨rfl,rfl⟩
       obtain⟨c0,hmap,c1,c2⟩:=HIT.out w1 HB1.out
       have fU:=Lib.hid hmap
       clear hmap
       go_wp2_with (first|(at_lookup;refine aJ aP rfl _ _ 95 88 rfl Tryz.underlying95 (Tryz.aQ _) rfl fU.out id rfl hok ?_;rw[HG.out]))
       (with_reducible refine(sK.out w1 HB1.out).mono ?_)
       rintro e w2 ⟨rfl,hb2⟩
       (first|rw[if_pos rfl]|rw[if_pos trivial])
       have HB2:=Lib.hid (HB1.out.trans (hb2.mono HB1.out.size))
       clear hb2
       obtain⟨d7,eY⟩:=qI.out w2 HB2.out
       obtain⟨_,_,_,f2⟩:=HIT.out w2 HB2.out
       have mF:=Lib.hid eY
       have HA2:=Lib.hid (HH.out.below HB2.out (Nat.le_refl _))
       have Te:Hid (∀w3,MapAt bV w3 (nb d) (cO bV.lt nm (.int .i64 id) (bC x))→w2.mapTurned w3 (nb d)→aC g D w3 p mb ib nb (setName T d nm id)∧w3.cell? ⟨ib id,2,none⟩=some (.int .i64 y.links)∧w3.frozen? ⟨ib id,2,none⟩=false∧ah id (setName T d nm id)=some y):=fun w3 hM PN=>by
        have h3:=HA2.out.set (id:=id) HX.out vN.out hM PN
        have hy3:ah id (setName T d nm id)=some y:=by unfold setName;rw[aV,if_neg YB.out];exact HY.out
        exact⟨h3,(h3.item id y hy3).cell.2.2.1,(h3.item id y hy3).frozen 2,hy3⟩
       clear eY
       go_wp2_with (first|(at_lookup;refine aB bV rfl _ _ 92 3 rfl Tryz.underlying92 (Tryz.dU _) rfl mF.out nm rfl kE ?_;rw[rC.out])|(at_mapUpdate;refine gT bV rfl _ _ _ 92 3 rfl Tryz.underlying92 rfl mF.out Tc.out nm (.int .i64 id) rfl rfl kE ?_;intro w5 Lu CP;obtain⟨B_,g2,gf2,hy5⟩:=Te.out w5 Lu CP;have Tf:=Lib.hid B_;have HY5:=Lib.hid hy5;have EX:=Lib.hid CP;clear B_ Lu CP hy5))
       go_ret
       rw[HM.out]
       have B_:=Tf.out
       have hgi:=HH.out.lZ id y HY.out
       have hgd:=HH.out.kD d x HX.out vN.out
       refine Turn.of rfl (B_.fields HY5.out (fun x=>{x with links:=x.links+1}) rfl rfl rfl (Keeps.lN w5 ⟨ib id,2,none⟩ _) (by rw[size_set]) fun a c hc=>by rw[aX hc];rfl) ?_
       have k1:Keeps (fun b=>g b≠ .none) w w2:=(Keeps.below HB2.out).mono fun b hb hb'=>absurd hb (by omega)
       have k2:Keeps (fun b=>g b≠ .none) w2 w5:=(eu EX.out).mono fun b _ hb=>by rw[show b=nb d from hb,hgd];simp
       have k3:Keeps (fun b=>g b≠ .none) w5 (w5.setCell ⟨ib id,2,none⟩ (.int .i64 (y.links+1))):=(Keeps.lN w5 ⟨ib id,2,none⟩ _).mono fun b _ hb=>by rw[show b=ib id from hb,hgi];simp
       exact(k1.trans k2 (fun _ _ h=>h)).trans k3 (fun _ _ h=>h)
    ·have hne:((aF T ls').2.2==0)=false:=by simpa using hp
     have hne2:((aF T ls').2.2 !=0)=true:=by simpa using hp
     have HM:Hid (gy T ls ls'=((aF T ls').2.2,T)):=by
      have:l9 T ls ls'=(aF T ls').2.2:=by
       unfold l9
       rw[if_neg (by rw[rT.out];simp),←HQ.out,if_neg (by simp),if_neg (by rw[bR HY.out];exact hk),if_pos hp]
      unfold gy;rw[this,if_neg hp];exact rfl
     have HP:=Lib.hid hp
     unfold mP at sK
     generalize aF T ls'=q at*
     clear hp hk
     go_enter Tryz.func43,Tryz.ntmps43
     go_wp2_with fail
     (with_reducible refine HF.out.mono ?_)
     rintro e w1 ⟨rfl,hb1⟩
     have HB1:=Lib.hid hb1
     clear hb1
     go_wp2_with fail
     (with_reducible refine(mO.out w1 HB1.out).mono ?_)
     rintro e w2 ⟨rfl,rfl⟩
     obtain⟨c0,hmap,c1,c2⟩:=HIT.out w1 HB1.out
     have fU:=Lib.hid hmap
     clear hmap
     go_wp2_with (first|(at_lookup;refine aJ aP rfl _ _ 95 88 rfl Tryz.underlying95 (Tryz.aQ _) rfl fU.out id rfl hok ?_;rw[HG.out]))
     (with_reducible refine(sK.out w1 HB1.out).mono ?_)
     rintro e w2 ⟨rfl,hb2⟩
     rw[if_neg HP.out]
     have HB2:=Lib.hid (HB1.out.trans (hb2.mono HB1.out.size))
     clear hb2
     go_wp2_with fail
     go_ret
     rw[HM.out]
     exact Turn.same HH.out HB2.out rfl
  ·have hne:(e0==0)=false:=by simpa using he
   have hne2:(e0 !=0)=true:=by simpa using he
   have HM:Hid (gy T ls ls'=(e0,T)):=by
    have:l9 T ls ls'=e0:=by
     unfold l9
     rw[if_neg (by rw[rT.out];simp),←HQ.out,if_pos he]
    unfold gy;rw[this,if_neg he];exact rfl
   clear he
   go_enter Tryz.func43,Tryz.ntmps43
   go_wp2_with fail
   (with_reducible refine HF.out.mono ?_)
   rintro e w1 ⟨rfl,hb1⟩
   have HB1:=Lib.hid hb1
   clear hb1
   go_wp2_with fail
   (with_reducible refine(mO.out w1 HB1.out).mono ?_)
   rintro e w2 ⟨rfl,rfl⟩
   go_wp2_with fail
   go_ret
   rw[HM.out]
   exact Turn.same HH.out HB1.out rfl
 ·have HM:Hid (gy T ls ls'=(jX ls ls',T)):=by
   have:l9 T ls ls'=jX ls ls':=by unfold l9;rw[if_pos hf]
   unfold gy;rw[this,if_neg hf];exact rfl
  have hne:(jX ls ls'==0)=false:=by simpa using hf
  have hne2:(jX ls ls' !=0)=true:=by simpa using hf
  clear hf
  go_enter Tryz.func43,Tryz.ntmps43
  go_wp2_with fail
  (with_reducible refine HF.out.mono ?_)
  rintro e w1 ⟨rfl,hb1⟩
  go_wp2_with fail
  go_ret
  rw[HM.out]
  exact Turn.same HH.out hb1 rfl
end
theorem dI.del {T:aK} (h:dI T) {k:Int} {x:eB} (hx:ah k T=some x) (h0:k≠0) (hn:x.names=[]) (hc:fK T k=0):dI (bI k T):=by
 have hget:∀j y,ah j (bI k T)=some y→j≠k∧ah j T=some y:=fun j y hy=>by
  rw[eZ]at hy
  by_cases hj:j=k
  ·rw[if_pos hj]at hy;cases hy
  ·rw[if_neg hj]at hy;exact⟨hj,hy⟩
 have hcn:∀j,cn j x=0:=fun j=>by unfold cn;rw[hn];rfl
 refine⟨⟨h.sorted.bI _,?_,fun j y hy=>h.each j y (hget j y hy).2,fun j y hy e he=> ?_,?_,fun j y hy=>h.ids j y (hget j y hy).2⟩,fun j y hy hj=> ?_⟩
 ·have hr:=h.root
  unfold bB at hr⊢
  rw[eZ,if_neg (Ne.symm h0)]
  exact hr
 ·have h1:=h.leads j y (hget j y hy).2 e he
  have h2:=wM hc (hget j y hy).2 e he
  rw[eZ,if_neg h2]
  exact h1
 ·have:=qD dQ h.sorted hx
  have:=h.len
  omega
 ·have h1:=uJ h.sorted hx j
  rw[hcn]at h1
  have h2:=h.counts j y (hget j y hy).2 hj
  omega
theorem dI.settle {T:aK} (h:dI T) {k:Int} (hk:k≠0) (hf:∀x,ah k T=some x→x.kind≠2):dI (gI T k):=by
 unfold gI
 cases hx:ah k T with
 |none=>exact h
 |some x=>
  simp only
  by_cases hc:x.links=0∧x.closed=true
  ·rw[if_pos hc]
   have hk1:=(h.each k x hx).kind.resolve_right (hf x hx)
   refine h.del hx hk ((h.each k x hx).file hk1) ?_
   have:=h.counts k x hx hk
   omega
  ·rw[if_neg hc];exact h
theorem dI.rF {T:aK} (h:dI T) {k:Int} {x:eB} (hx:ah k T=some x) (hk:x.kind≠2):k≠0:=by
 rintro rfl
 have:=h.root
 unfold bB at this
 rw[hx]at this
 exact hk this
theorem xH {T:aK} (hT:dI T) {ls:List Nm} {kind:Int} (h:lQ T ls kind=0):bG ls=0∧(kind=1∨kind=2)∧(aF T ls).2.2=0∧ah (aF T ls).2.1 (aM T (aF T ls).1)=none∧T.length<64:=by
 unfold lQ at h
 by_cases h1:bG ls≠0
 ·rw[if_pos h1]at h;exact absurd h h1
 ·rw[if_neg h1]at h
  by_cases h2:¬(kind=1∨kind=2)
  ·rw[if_pos h2]at h;cases h
  ·rw[if_neg h2]at h
   by_cases h3:(aF T ls).2.2≠0
   ·rw[if_pos h3]at h;exact absurd h h3
   ·rw[if_neg h3]at h
    by_cases h4:(ah (aF T ls).2.1 (aM T (aF T ls).1)).isSome=true
    ·rw[if_pos h4]at h;cases h
    ·rw[if_neg h4]at h
     by_cases h5:64≤T.length
     ·rw[if_pos h5]at h;cases h
     ·exact⟨by omega,Decidable.not_not.1 h2,by omega,by simpa using h4,by omega⟩
theorem dI.cZ {T:aK} (h:dI T) (ls:List Nm) (kind:Int):dI (cZ T ls kind).2:=by
 unfold Go.Proofs.YtmabllemjkcobaaGreatDoor.cZ
 by_cases he:lQ T ls kind=0
 ·rw[if_pos he]
  obtain⟨h1,h2,h3,h4,h5⟩:=xH h he
  obtain⟨x,hx,hk,hm⟩:=iY h h3
  obtain⟨f,hf,hf1,hf2,hfn,_⟩:=h.free
  have e1:aM T (aF T ls).1=x.names:=by unfold aM;rw[hx]
  rw[e1]at h4
  have hlen:=h.len
  show dI (rX T ls kind)
  unfold rX
  rw[hf]
  exact h.make h2 hfn (by omega) (by omega) h5 hx hk (ig h1 _ hm) h4
 ·rw[if_neg he];exact h
theorem dI.dF {T:aK} (h:dI T) (id:Int) (b:List UInt8):dI (dF T id b).2:=by
 unfold Go.Proofs.YtmabllemjkcobaaGreatDoor.dF
 by_cases he:nH T id b=0
 ·simp only[if_pos he]
  unfold nH at he
  cases hx:ah id T with
  |none=>rw[hx]at he;cases he
  |some x=>
   rw[hx]at he
   simp only at he
   by_cases hk:x.kind=2
   ·rw[if_pos hk]at he;cases he
   ·rw[if_neg hk]at he
    cases hc:x.closed with
    |true=>rw[hc]at he;cases he
    |false=>
     rw[hc]at he
     simp only[Bool.false_eq_true,if_false]at he
     by_cases hb:4096<x.b.length+b.length
     ·rw[if_pos hb]at he;cases he
     ·have ho:=h.each id x hx
      exact h.uK hx ⟨ho.kind,ho.file,fun h=>absurd h hk,fun _=>hc,ho.sorted,ho.good,by rw[List.length_append];omega,ho.links,ho.au⟩ rfl rfl rfl
 ·simp only[if_neg he];exact h
theorem dI.fE {T:aK} (h:dI T) (id au:Int) (h0:0≤au):dI (fE T id au).2:=by
 unfold Go.Proofs.YtmabllemjkcobaaGreatDoor.fE
 by_cases he:vK T id au=0
 ·simp only[if_pos he]
  unfold vK at he
  cases hx:ah id T with
  |none=>rw[hx]at he;cases he
  |some x=>
   rw[hx]at he
   simp only at he
   by_cases hk:x.kind=2
   ·rw[if_pos hk]at he;cases he
   ·rw[if_neg hk]at he
    cases hc:x.closed with
    |true=>rw[hc]at he;cases he
    |false=>
     rw[hc]at he
     simp only[Bool.false_eq_true,if_false]at he
     by_cases hb:1099511627776<au
     ·rw[if_pos hb]at he;cases he
     ·have ho:=h.each id x hx
      have hk1:=ho.kind.resolve_right hk
      have hcnt:=h.counts id x hx (h.rF hx hk)
      by_cases hl:x.links=0
      ·have hn:=ho.file hk1
       have e:gI (Go.Proofs.YtmabllemjkcobaaGreatDoor.bX id (fun x=>{x with closed:=true,au:=au}) T) id=bI id T:=by
        unfold gI
        rw[aV,if_pos rfl,hx]
        simp only[Option.map_some,hl,and_self,if_true]
        unfold bI Go.Proofs.YtmabllemjkcobaaGreatDoor.bX
        clear hx ho hcnt he h
        induction T with
        |nil=>rfl
        |cons y r ih=>
         rw[List.map_cons,List.filter_cons,List.filter_cons,ih]
         by_cases hy:y.1=id<;>simp[hy]
       rw[e]
       exact h.del hx (h.rF hx hk) hn (by omega)
      ·have hs:dI (Go.Proofs.YtmabllemjkcobaaGreatDoor.bX id (fun x=>{x with closed:=true,au:=au}) T):=
        h.uK hx ⟨ho.kind,ho.file,fun h=>absurd h hk,fun h=>absurd h hl,ho.sorted,ho.good,ho.size,ho.links,⟨h0,by simp only;omega⟩⟩ rfl rfl rfl
       exact hs.settle (h.rF hx hk) (fun y hy=>by
        rw[aV,if_pos rfl,hx]at hy
        simp only[Option.map_some,Option.some.injEq]at hy
        rw[←hy]
        exact hk)
 ·simp only[if_neg he];exact h
theorem dI.gU {T:aK} (h:dI T) (id au:Int) (h0:0≤au):dI (gU T id au).2:=by
 unfold Go.Proofs.YtmabllemjkcobaaGreatDoor.gU
 by_cases he:vL T id au=0
 ·simp only[if_pos he]
  unfold vL at he
  cases hx:ah id T with
  |none=>rw[hx]at he;cases he
  |some x=>
   rw[hx]at he
   simp only at he
   by_cases hk:x.kind=2
   ·rw[if_pos hk]at he;cases he
   ·rw[if_neg hk]at he
    by_cases hc:x.closed=false
    ·rw[if_pos hc]at he;cases he
    ·rw[if_neg hc]at he
     by_cases hb:au<x.au
     ·rw[if_pos hb]at he;cases he
     ·rw[if_neg hb]at he
      by_cases hb:1099511627776<au
      ·rw[if_pos hb]at he;cases he
      ·have ho:=h.each id x hx
       exact h.uK hx ⟨ho.kind,ho.file,fun h=>absurd h hk,ho.gone,ho.sorted,ho.good,ho.size,ho.links,⟨h0,by simp only;omega⟩⟩ rfl rfl rfl
 ·simp only[if_neg he];exact h
theorem xI {T:aK} {p tq:List Nm} (h:l9 T p tq=0):jX p tq=0∧(aD T 0 p).2=0∧bB T (aD T 0 p).1≠2∧(aF T tq).2.2=0∧ah (aF T tq).2.1 (aM T (aF T tq).1)=none∧rY T (aD T 0 p).1<64:=by
 unfold l9 at h
 by_cases h1:jX p tq≠0
 ·rw[if_pos h1]at h;exact absurd h h1
 ·rw[if_neg h1]at h
  by_cases h2:(aD T 0 p).2≠0
  ·rw[if_pos h2]at h;exact absurd h h2
  ·rw[if_neg h2]at h
   by_cases h3:bB T (aD T 0 p).1=2
   ·rw[if_pos h3]at h;cases h
   ·rw[if_neg h3]at h
    by_cases h4:(aF T tq).2.2≠0
    ·rw[if_pos h4]at h;exact absurd h h4
    ·rw[if_neg h4]at h
     by_cases h5:(ah (aF T tq).2.1 (aM T (aF T tq).1)).isSome=true
     ·rw[if_pos h5]at h;cases h
     ·rw[if_neg h5]at h
      by_cases h6:64≤rY T (aD T 0 p).1
      ·rw[if_pos h6]at h;cases h
      ·exact⟨by omega,by omega,h3,by omega,by simpa using h5,by omega⟩
theorem pG {p q:List Nm} (h:jX p q=0):bG p=0∧bG q=0:=by
 unfold jX at h
 split at h
 ·rename_i h1;exact absurd h h1
 ·exact⟨by omega,h⟩
theorem dI.gy {T:aK} (h:dI T) (p tq:List Nm):dI (gy T p tq).2:=by
 unfold Go.Proofs.YtmabllemjkcobaaGreatDoor.gy
 by_cases he:l9 T p tq=0
 ·simp only[if_pos he]
  obtain⟨h1,h2,h3,h4,h5,h6⟩:=xI he
  obtain⟨x,hx,hk,hm⟩:=iY h h4
  obtain⟨y,hy⟩:=Option.isSome_iff_exists.1 (jY h p 0 (jT h) h2)
  have e1:aM T (aF T tq).1=x.names:=by unfold aM;rw[hx]
  have e2:rY T (aD T 0 p).1=y.links:=by unfold rY;rw[hy]
  rw[e1]at h5
  rw[e2]at h6
  rw[bR hy]at h3
  exact h.link hx hk (ig (pG h1).2 _ hm) h5 hy h3 h6 (h.rF hy h3)
 ·simp only[if_neg he];exact h
section
variable {W w:World} {P:Nat→Prop} {p:Nat} {T:aK}
end
abbrev Mark:=Nat→Nat
structure Marks (W:World) (o:Mark) (w:World):Prop where
 new:∀b,o b≠0→W.heap.size≤b∧b<w.heap.size
 below:Below W.heap.size W w
structure Step (o:Mark) (I:Nat→Prop) (w:World) (o':Mark) (w':World):Prop where
 old:∀b,b<w.heap.size→o' b=o b
 new:∀b,w.heap.size≤b→o' b≠0→I (o' b)∧b<w'.heap.size
 keep:Keeps (fun b=>I (o b)) w w'
theorem Marks.step {W w w':World} {o o':Mark} {I:Nat→Prop} (h:Marks W o w) (hi:¬I 0) (hs:Step o I w o' w'):Marks W o' w':=by
 refine⟨fun b hb=> ?_,h.below.trans (hs.keep.gP h.below.size fun x hx (hxi:I (o x))=> ?_)⟩
 ·by_cases hlt:b<w.heap.size
  ·rw[hs.old b hlt]at hb
   exact⟨(h.new b hb).1,Nat.lt_of_lt_of_le hlt hs.keep.size⟩
  ·have h1:=(hs.new b (by omega) hb).2
   have:=h.below.size
   exact⟨by omega,h1⟩
 ·have h0:o x≠0:=fun e=>hi (by rw[e]at hxi;exact hxi)
  have:=(h.new x h0).1
  omega
theorem Marks.grow {W w w':World} {o:Mark} (h:Marks W o w) (hb:Below w.heap.size w w'):Marks W o w':=
 ⟨fun b hn=>⟨(h.new b hn).1,Nat.lt_of_lt_of_le (h.new b hn).2 hb.size⟩,h.below.trans (hb.mono h.below.size)⟩
theorem Step.mono {w w':World} {o o':Mark} {I J:Nat→Prop} (h:Step o I w o' w') (hIJ:∀i,I i→J i):Step o J w o' w':=
 ⟨h.old,fun b hb hn=>⟨hIJ _ (h.new b hb hn).1,(h.new b hb hn).2⟩,h.keep.mono fun x _ hx=>hIJ _ hx⟩
theorem Step.grow {W w w':World} {o:Mark} {I:Nat→Prop} (h:Marks W o w) (hb:Below w.heap.size w w'):Step o I w o w':=
 ⟨fun _ _=>rfl,fun b hb hn=>by have:=(h.new b hn).2;omega,(Keeps.below hb).mono fun x hx hx'=>absurd hx (by omega)⟩
theorem Step.trans {w w1 w2:World} {o o1 o2:Mark} {I:Nat→Prop} (h:Step o I w o1 w1) (k:Step o1 I w1 o2 w2):Step o I w o2 w2:=by
 have hs:=h.keep.size
 refine⟨fun b hb=>(k.old b (by omega)).trans (h.old b hb),fun b hb hn=> ?_,h.keep.trans k.keep fun x hx (hxi:I (o1 x))=>by rw[h.old x hx]at hxi;exact hxi⟩
 by_cases hlt:b<w1.heap.size
 ·rw[k.old b hlt]at hn⊢
  exact⟨(h.new b hb hn).1,Nat.lt_of_lt_of_le (h.new b hb hn).2 k.keep.size⟩
 ·exact k.new b (by omega) hn
theorem Step.then_ {W w w1 w2:World} {o o1:Mark} {I:Nat→Prop} (hM:Marks W o w) (hi:¬I 0) (h:Step o I w o1 w1) (hb:Below w1.heap.size w1 w2):Step o I w o1 w2:=h.trans (Step.grow (hM.step hi h) hb)
theorem Step.behind {W w w1 w2:World} {o o2:Mark} {I:Nat→Prop} (hM:Marks W o w) (hb:Below w.heap.size w w1) (h:Step o I w1 o2 w2):Step o I w o2 w2:=(Step.grow hM hb).trans h
theorem Step.block {w w':World} {o o':Mark} {I:Nat→Prop} (h:Step o I w o' w') {b:Nat} (hb:b<w.heap.size) (hn:¬I (o b)):w'.heap[b]? =w.heap[b]? :=h.keep.block b hb hn
def Free (o:Mark) (w:World) (b:Nat):Prop:=o b=0∧b<w.heap.size
theorem aj.free {o o':Mark} {I:Nat→Prop} {w w':World} {a:Option Addr} {n:Nat} {vs:List Value} (h:aj (Free o w) w a n vs) (hi:¬I 0) (hs:Step o I w o' w'):aj (Free o' w') w' a n vs:=
 h.move hs.keep.size fun b hb hbw=>⟨⟨(hs.old b hb.2).trans hb.1,Nat.lt_of_lt_of_le hb.2 hs.keep.size⟩,hs.block hb.2 (by rw[hb.1];exact hi)⟩
theorem aj.xJ {W w w':World} {o:Mark} {a:Option Addr} {n:Nat} {vs:List Value} (hM:Marks W o w) (h:aj (fun x=>w.heap.size≤x∧x<w'.heap.size) w' a n vs):aj (Free o w') w' a n vs:=
 h.mono fun b hb=>⟨Decidable.byContradiction fun h0=>by have:=(hM.new b h0).2;omega,hb.2⟩
def dN (o:Mark) (i:Nat) (w:World) (p:Nat) (T:aK):Prop:=
 ∃g D mb ib nb,aC g D w p mb ib nb T∧(∀b,g b≠ .none→o b=i)∧(∀b,D b→o b=0)
theorem dN.step {o o':Mark} {I:Nat→Prop} {j:Nat} {w w':World} {p:Nat} {T:aK} (h:dN o j w p T) (hi:¬I 0) (hij:¬I j) (hs:Step o I w o' w'):dN o' j w' p T:=by
 obtain⟨g,D,mb,ib,nb,hA,hg,hD⟩:=h
 refine⟨g,D,mb,ib,nb,hA.keeps hs.keep fun b hb=> ?_,fun b hb=>(hs.old b (hA.low b hb)).trans (hg b hb),fun b hb=>(hs.old b (hA.l5 b hb)).trans (hD b hb)⟩
 rcases hb with hb|hb
 ·rw[hg b hb];exact hij
 ·rw[hD b hb];exact hi
theorem dN.grow {o:Mark} {j:Nat} {w w':World} {p:Nat} {T:aK} (h:dN o j w p T) (hb:Below w.heap.size w w'):dN o j w' p T:=by
 obtain⟨g,D,mb,ib,nb,hA,hg,hD⟩:=h
 exact⟨g,D,mb,ib,nb,hA.below hb (Nat.le_refl _),hg,hD⟩
theorem dN.remark {o o':Mark} {j k:Nat} {w:World} {p:Nat} {T:aK} (h:dN o j w p T) (h1:∀b,b<w.heap.size→o b=j→o' b=k) (h2:∀b,b<w.heap.size→o b=0→o' b=0):dN o' k w p T:=by
 obtain⟨g,D,mb,ib,nb,hA,hg,hD⟩:=h
 exact⟨g,D,mb,ib,nb,hA,fun b hb=>h1 b (hA.low b hb) (hg b hb),fun b hb=>h2 b (hA.l5 b hb) (hD b hb)⟩
def fP (o:Mark) (i:Nat) (w:World) (p:Nat) (T':aK) (v:Value) (e:Ending) (w':World):Prop:=
 e= .returned v∧∃o',Step o (fun j=>j=i) w o' w'∧dN o' i w' p T'
open Classical in
theorem fP.of {W w w':World} {o:Mark} {i p mb:Nat} {T':aK} {v:Value} {e:Ending} {g:Nat→Own} {D:Nat→Prop} (hM:Marks W o w) (hi:i≠0) (hg:∀b,g b≠ .none→o b=i) (hD:∀b,D b→o b=0) (ht:Turn g D w p mb T' v e w'):fP o i w p T' v e w':=by
 obtain⟨rfl,g',D',G5,nb',hA',hg',hD',hK⟩:=ht
 obtain⟨o',ho⟩:∃o':Mark,∀b,o' b=if b<w.heap.size then o b else if g' b≠ .none then i else 0:=⟨_,fun _=>rfl⟩
 refine⟨rfl,o',⟨fun b hb=>by rw[ho,if_pos hb],fun b hb hn=> ?_,hK.mono fun x _ hx=>hg x hx⟩,g',D',mb,G5,nb',hA',fun b hb=> ?_,fun b hb=> ?_⟩
 ·rw[ho,if_neg (by omega)]at hn⊢
  by_cases h:g' b≠ .none
  ·rw[if_pos h];exact⟨rfl,hA'.low b h⟩
  ·rw[if_neg h]at hn;exact absurd rfl hn
 ·rw[ho]
  by_cases hlt:b<w.heap.size
  ·rw[if_pos hlt]
   rcases hg' b hb with h|h
   ·exact hg b h
   ·omega
  ·rw[if_neg hlt,if_pos hb]
 ·rw[ho]
  by_cases hlt:b<w.heap.size
  ·rw[if_pos hlt]
   rcases hD' b hb with h|h
   ·exact hD b h
   ·omega
  ·rw[if_neg hlt,if_neg (by rw[hA'.data b hb];simp)]
section
variable {W w:World} {o:Mark} {i p:Nat} {T:aK}
theorem G6 {S:Nat→Prop} (h:dN o i w p T) (hM:Marks W o w) (hi:i≠0) (hT:dI T) (a:Option Addr) (n c:Nat) (ls:List Nm) (kind:Int) (hS:aO S w a n (ls.map strOf)) (hc:n≤c) (nD:n≤1000000):
  Calls Tryz.prog 15 #[ptr p, .slice a n c, .int .i64 kind] w (fP o i w p (cZ T ls kind).2 (.tuple #[.int .i64 (cZ T ls kind).1.1, .int .i64 (cZ T ls kind).1.2])):=by
 obtain⟨g,D,mb,ib,nb,hA,hg,hD⟩:=h
 exact(Pw a n c ls kind w hA hT hS hc nD).mono fun e w' ht=>fP.of hM hi hg hD ht
theorem Je {S:Nat→Prop} (h:dN o i w p T) (hM:Marks W o w) (hi:i≠0) (hT:dI T) (id:Int) (a:Option Addr) (l c:Nat) (bs:List UInt8) (hid:(Lit.int .i64 id).wf=true) (hr:aj S w a l (bs.map bv)) (hl:l≤1000000000):
  Calls Tryz.prog 102 #[ptr p, .int .i64 id, .slice a l c] w (fP o i w p (dF T id bs).2 (.int .i64 (dF T id bs).1)):=by
 obtain⟨g,D,mb,ib,nb,hA,hg,hD⟩:=h
 exact(Jd id a l c bs w hA (fun x hx=>(hT.each id x hx).size) hid hr hl).mono fun e w' ht=>fP.of hM hi hg hD ht
end
end Go.Proofs.YtmabllemjkcobaaGreatDoor
