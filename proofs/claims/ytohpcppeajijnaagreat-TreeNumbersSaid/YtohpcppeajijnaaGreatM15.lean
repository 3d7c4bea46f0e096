/- tree: Read, Append. tree: New; Drop refused. tree: Link. -/
import Derived.Test.YtohpcppeajijnaaGreatM13
namespace Go.Proofs.YtohpcppeajijnaaGreat
open Go.ChangeShapes Go.WideShapes Go.ChangeAt Go.RowKit
set_option linter.unusedVariables false
set_option linter.unusedSimpArgs false
set_option maxHeartbeats 1000000 in
theorem FZ (a:Option Addr) (l c:Nat) (at_ n:Int) (w:World) (h:at_<0∨n<0):
  Calls Tryz.prog 79 #[.slice a l c, .int .i64 at_, .int .i64 n] w (qF w [] 1):=by
 by_cases h1:at_<0
 ·go_enter Tryz.func79,Tryz.ntmps79
  go_wp2
  go_ret2
  exact⟨none,0,0,rfl,Nat.le_refl _,ak.nil _ _ _,Below.refl _ _⟩
 ·have h2:n<0:=by omega
  have e1:decide (at_<0)=false:=by simpa using h1
  clear h
  go_enter Tryz.func79,Tryz.ntmps79
  go_wp2
  go_ret2
  exact⟨none,0,0,rfl,Nat.le_refl _,ak.nil _ _ _,Below.refl _ _⟩
theorem F3 {S:Nat→Prop} (a:Option Addr) (l c:Nat) (bs:List UInt8) (at_ n:Int) (w:World) (hl:l≤1000000000) (hlc:qz l c) (hA:(Lit.int .i64 at_).wf=true) (hN:(Lit.int .i64 n).wf=true) (hr:ak S w a l (bs.map bv)):
  Calls Tryz.prog 79 #[.slice a l c, .int .i64 at_, .int .i64 n] w (qF w (uF bs at_ n) (uE at_ n)):=by
 simp only[Lit.wf,IntKind.min,IntKind.max,IntKind.signed,IntKind.bits,Bool.and_eq_true,decide_eq_true_eq]at hA hN
 by_cases h:at_<0∨n<0
 ·unfold uF uE
  rw[if_pos h,if_pos h]
  exact FZ a l c at_ n w h
 ·unfold uF uE
  rw[if_neg h,if_neg h]
  have:=Jt (S:=S) a l c bs at_.toNat n.toNat w hl hlc.1 hlc.2 (by simp at hA;omega) (by simp at hN;omega) hr
  rw[show((at_.toNat:Nat):Int)=at_ by omega,show((n.toNat:Nat):Int)=n by omega]at this
  exact this
section
variable {g:Nat→Own} {D:Nat→Prop} {p mb:Nat} {ib nb:Int→Nat} {T:aH}
set_option maxHeartbeats 2000000 in
theorem F4 (id at_ n:Int) (w:World) (h:aK g D w p mb ib nb T) (hok:∀x,aj id T=some x→x.b.length≤4096) (hid:(Lit.int .i64 id).wf=true) (hA:(Lit.int .i64 at_).wf=true) (hN:(Lit.int .i64 n).wf=true):
  Calls Tryz.prog 27 #[ptr p, .int .i64 id, .int .i64 at_, .int .i64 n] w (qF w (mh T id at_ n) (mg T id at_ n)):=by
 by_cases hf:bK T id=0
 ·obtain⟨x,hx,hk⟩:=lg hf
  have HF:=Lib.hid (oU id hx hk w h hid)
  obtain⟨a,c,c6,hcap,hr,_⟩:=(h.item id x hx).row
  have HP:=Lib.hid (F3 (S:=D) a x.b.length c x.b at_ n w (by have:=hok x hx;omega) hcap hA hN hr)
  have e:mh T id at_ n=uF x.b at_ n∧mg T id at_ n=uE at_ n:=by
   unfold mh mg
   rw[hx]
   simp only[if_neg hk,and_self]
  rw[e.1,e.2]
  clear h hx hok hA hN hid hf hk e hr hcap
  go_enter Tryz.func27,Tryz.ntmps27
  go_wp2_with fail
  (with_reducible refine HF.out.mono ?_)
  rintro e w1 ⟨rfl,rfl⟩
  go_wp2_with fail
  (with_reducible refine HP.out.mono ?_)
  rintro e w1 ⟨a1,n1,c1,rfl,hn1,hr1,hb1⟩
  have HR1:=Lib.hid hr1
  have HB1:=Lib.hid hb1
  clear hr1 hb1
  go_wp2_with fail
  go_ret2
  exact⟨a1,n1,c1,rfl,hn1,HR1.out,HB1.out⟩
 ·have hne:(bK T id==0)=false:=by simpa using hf
  have HF:=Lib.hid (ow id _ rfl hf w h hid)
  obtain⟨e1,e2⟩:=Dx (at_:=at_) (n:=n) hf
  rw[e1,e2]
  obtain⟨k,hk⟩:∃k,k=bK T id:=⟨_,rfl⟩
  rw[←hk]at HF hne⊢
  clear hf h hk hok e1 e2 hA hN hid
  go_enter Tryz.func27,Tryz.ntmps27
  go_wp2_with fail
  (with_reducible refine HF.out.mono ?_)
  rintro e w1 ⟨rfl,rfl⟩
  go_wp2_with fail
  go_ret2
  exact⟨none,0,0,rfl,Nat.le_refl _,ak.nil _ _ _,Below.refl _ _⟩
theorem uS {S S':Nat→Prop} (a:Option Addr) (l c:Nat) (x:List UInt8) (a':Option Addr) (l' c':Nat) (y:List UInt8) (w:World) (hx:ak S w a l (x.map bv)) (hy:ak S' w a' l' (y.map bv)) (ht:l+l'≤1000000000):
  Calls Tryz.prog 77 #[.slice (some ⟨w.heap.size,0,none⟩) 2 2] (w.alloc (.cells #[.slice a l c, .slice a' l' c'] 39)) fun e w'=>∃a2 c2,e= .returned (.slice a2 (l+l') c2)∧qz (l+l') c2∧ak (fun b=>w.heap.size≤b∧b<w'.heap.size) w' a2 (l+l') ((x++y).map bv)∧Below w.heap.size w w':=by
 have e1:x.length=l:=by have:=hx.length;simpa using this
 have e2:y.length=l':=by have:=hy.length;simpa using this
 have e3:([x,y]:List (List UInt8)).flatten=x++y:=by simp
 have e4:(x++y).length=l+l':=by rw[List.length_append,e1,e2]
 refine(Aq (S:=fun b=>S b∨S' b) w.heap.size 2 [x,y] _ rfl (by omega) (by simp) (by rw[e3,e4];exact ht) (fun k hk=> ?_)).mono ?_
 ·rcases (show k=0∨k=1 by omega)with rfl|rfl
  ·exact⟨a,l,c,x,kL.1,(hx.below (wall w _) (Nat.le_refl _)).mono fun _=> .inl,rfl⟩
  ·exact⟨a',l',c',y,kL.2,(hy.below (wall w _) (Nat.le_refl _)).mono fun _=> .inr,rfl⟩
 ·rintro e w' ⟨a2,c2,rfl,hc2,hr,hb⟩
  rw[e3,e4]at hr hc2
  rw[e3,e4]
  exact⟨a2,c2,rfl,hc2,hr.mono fun b hb=>⟨by simp at hb;omega,hb.2⟩,(wall w _).trans (hb.mono (by simp))⟩
theorem AO {w w1:World} {id:Int} {x:bF} {bs:List UInt8} {a2:Option Addr} {l c2:Nat} {v3 v:Value} (h:aK g D w p mb ib nb T) (hb:Below w.heap.size w w1) (hx:aj id T=some x) (hl:bs.length=l) (hcap:qz (x.b.length+l) c2)
  (hr:ak (fun b=>w.heap.size≤b∧b<w1.heap.size) w1 a2 (x.b.length+l) ((x.b++bs).map bv)) (h3:v3= .int .i64 ((x.b.length+l:Nat):Int)):
  Turn g D w p mb (bf id (fun x=>{x with b:=x.b++bs}) T) v (.returned v) ((w1.setCell ⟨ib id,6,none⟩ (.slice a2 (x.b.length+l) c2)).setCell ⟨ib id,3,none⟩ v3):=by
 subst h3
 have hA1:=h.below hb (Nat.le_refl _)
 have ti:=h.lF id x hx
 have hs:=hb.size
 have hK:=Keeps.set2 w1 (ib id) 6 3 (.slice a2 (x.b.length+l) c2) (.int .i64 ((x.b.length+l:Nat):Int))
 obtain⟨ax,cx,_,_,_,hc⟩:=(hA1.item id x hx).row
 have hlen:(x.b++bs).length=x.b.length+l:=by rw[List.length_append,hl]
 refine⟨rfl,g,fun b=>D b∨(w.heap.size≤b∧b<w1.heap.size),ib,nb,?_,fun b h=> .inl h,fun b hb=>hb.imp (fun h=>h) fun h=>h.1,?_⟩
 ·refine hA1.bf hx rfl (fun _ h=> .inl h) (fun b hb=> ?_) (by rw[size_set,size_set];exact Nat.le_refl _) (fun b hbw h1 _=>hK.block b hbw (fun e=>h1 (by rw[e];exact ti))) ?_
  ·rw[size_set,size_set]
   rcases hb with hb|hb
   ·exact⟨hA1.data b hb,hA1.lG b hb⟩
   ·refine⟨?_,hb.2⟩
    cases hg:g b with
    |none=>rfl
    |_=>have:=h.low b (by rw[hg];simp);omega
  ·refine⟨⟨a2,c2,?_,by rw[hlen];exact hcap,?_⟩,fun hk=> ?_⟩
   ·rw[bJ (bJ hc)]
    simp only[iG,hlen]
    rfl
   ·rw[hlen]
    refine hr.move hK.size fun b hb hbw=>⟨.inr hb,hK.block b hbw ?_⟩
    have:=h.low (ib id) (by rw[ti];simp)
    omega
   ·have tn:=h.ku id x hx hk
    have e:bR {x with b:=x.b++bs}=bR x:=rfl
    rw[e]
    exact((hA1.item id x hx).names hk).kept (hK.block _ (hA1.low _ (by rw[tn];simp)) (fun e=>by rw[e,ti]at tn;cases tn))
 ·have hgi:g (ib id)≠ .none:=by rw[ti];simp
  exact⟨hK.os.trans hb.os,hK.tape.trans hb.tape,hK.output.trans hb.output,Nat.le_trans hs hK.size,fun b hbw hbg=>(hK.block b (by omega) (fun e=>hbg (by rw[e];exact hgi))).trans (hb.block b hbw)⟩
set_option maxRecDepth 100000 in
set_option maxHeartbeats 4000000 in
theorem DF {S:Nat→Prop} (id:Int) (a:Option Addr) (l c:Nat) (bs:List UInt8) (w:World) (h:aK g D w p mb ib nb T) (hok:∀x,aj id T=some x→x.b.length≤4096) (hid:(Lit.int .i64 id).wf=true) (hr:ak S w a l (bs.map bv)) (hl:l≤1000000000):
  Calls Tryz.prog 20 #[ptr p, .int .i64 id, .slice a l c] w (Turn g D w p mb (bT T id bs).2 (.int .i64 (bT T id bs).1)):=by
 have HH:=Lib.hid h
 have hbl:bs.length=l:=by have:=hr.length;simpa using this
 by_cases hf:bK T id=0
 ·obtain⟨x,hx,hk⟩:=lg hf
  have HF:=Lib.hid (oU id hx hk w h hid)
  obtain⟨c0,c1,c2,c3,c4,c5,c7,hiw⟩:=(h.item id x hx).cell
  have hxb:=hok x hx
  have hE:jc T id bs=if x.closed then 27 else if 4096<x.b.length+l then 15 else 0:=by unfold jc;rw[hx,hbl];simp only[if_neg hk]
  have HE:=Lib.hid hE
  cases hcl:x.closed with
  |true=>
   have HM:Hid (bT T id bs=(27,T)):=by
    unfold bT
    rw[HE.out,hcl];simp only[if_pos];exact rfl
   rw[hcl]at c5
   clear hE hcl hx hk hf h c7 hok hr hbl
   go_enter Tryz.func20,Tryz.ntmps20
   go_wp2_with fail
   (with_reducible refine HF.out.mono ?_)
   rintro e w1 ⟨rfl,rfl⟩
   go_wp2_with fail
   go_ret
   rw[HM.out]
   exact Turn.same HH.out (Below.refl _ _) rfl
  |false=>
   rw[hcl]at c5
   by_cases hbig:4096<x.b.length+l
   ·have HM:Hid (bT T id bs=(15,T)):=by
     unfold bT
     rw[HE.out,hcl];simp only[Bool.false_eq_true,if_false,if_pos hbig];exact rfl
    have hd:decide ((4096:Int)-(x.b.length:Int)<(l:Int))=true:=by simp;omega
    clear hE hcl hx hk hf h c7 hok hr hbl
    go_enter Tryz.func20,Tryz.ntmps20
    go_wp2_with fail
    (with_reducible refine HF.out.mono ?_)
    rintro e w1 ⟨rfl,rfl⟩
    go_wp2_with fail
    go_ret
    rw[HM.out]
    exact Turn.same HH.out (Below.refl _ _) rfl
   ·have HM:Hid (bT T id bs=(0,bf id (fun x=>{x with b:=x.b++bs}) T)):=by
     unfold bT
     rw[HE.out,hcl];simp only[Bool.false_eq_true,if_false,if_neg hbig];exact rfl
    have hd:decide ((4096:Int)-(x.b.length:Int)<(l:Int))=false:=by simp;omega
    obtain⟨ax,cx,c6,hcap,hrx,hcells⟩:=(h.item id x hx).row
    have HC:=Lib.hid (uS ax x.b.length cx x.b a l c bs w hrx hr (by omega))
    have HX:=Lib.hid hx
    have Qz:=Lib.hid hcells
    have DI:=Lib.hid hbl
    clear hE hcl hx hk hf h c7 hok hr hbl hrx hcells hcap
    go_enter Tryz.func20,Tryz.ntmps20
    go_wp2_with fail
    (with_reducible refine HF.out.mono ?_)
    rintro e w1 ⟨rfl,rfl⟩
    go_wp2_with fail
    (with_reducible refine HC.out.mono ?_)
    rintro e w1 ⟨a2,c2',rfl,hcap2,hr2,hb2⟩
    have hA1:=HH.out.below hb2 (Nat.le_refl _)
    have hi1:=hA1.item id x HX.out
    have Yj:=hi1.frozen 6
    have Yk:=hi1.frozen 3
    have Yl:=hi1.cell.2.2.2.2.2.2.2
    obtain⟨_,_,d6,_,_,_⟩:=hi1.row
    obtain⟨_,_,_,d3,_,_,_,_⟩:=hi1.cell
    have HA1:=Lib.hid hA1
    have HR2:=Lib.hid hr2
    have HB2:=Lib.hid hb2
    have Ry:=Lib.hid hcap2
    clear hA1 hr2 hb2 hcap2 hi1
    go_wp2_with fail
    go_ret
    rw[HM.out]
    exact AO HH.out HB2.out HX.out DI.out Ry.out HR2.out (by simp)
 ·have hne:(bK T id==0)=false:=by simpa using hf
  have HF:=Lib.hid (ow id _ rfl hf w h hid)
  have HM:Hid (bT T id bs=(bK T id,T)):=by
   unfold bT
   rw[yT hf,if_neg hf];exact rfl
  obtain⟨k,hk⟩:∃k,k=bK T id:=⟨_,rfl⟩
  rw[←hk]at HF hne HM
  clear hf h hk hok hr hbl
  go_enter Tryz.func20,Tryz.ntmps20
  go_wp2_with fail
  (with_reducible refine HF.out.mono ?_)
  rintro e w1 ⟨rfl,rfl⟩
  go_wp2_with fail
  go_ret
  rw[HM.out]
  exact Turn.same HH.out (Below.refl _ _) rfl
end
def newG (B b:Nat):Own:=if b=B then .items else if b=B+1 then .item 0 else if b=B+2 then .names 0 else .none
theorem JC {w w1 w2:World} (hi:iL (fun _=>False) w1 0 (w.heap.size+1) (w.heap.size+1+1) (bq 2)) (hb:Below (w.heap.size+1) (w.alloc (.map #[] 0)) w1) (hs:w.heap.size+1+1<w1.heap.size)
  (hM:MapAt bP w2 w.heap.size (bY bP.lt 0 (ptr (w.heap.size+1)) [])) (hT:w1.mapTurned w2 w.heap.size):
  aK (fun b=>if b=w2.heap.size then .head else newG w.heap.size b) (fun _=>False) (w2.alloc (.cells #[.map (some w.heap.size)] 96)) w2.heap.size w.heap.size (fun _=>w.heap.size+1) (fun _=>w.heap.size+2) jE∧Below w.heap.size w (w2.alloc (.cells #[.map (some w.heap.size)] 96)):=by
 have hsz:=iJ hT
 have hK:=dN hT
 have hw3:∀b,b<w2.heap.size→(w2.alloc (.cells #[.map (some w.heap.size)] 96)).heap[b]? =w2.heap[b]? :=fun b hb=>Below.heap_alloc _ _ _ hb
 have hget:∀k x,aj k jE=some x→k=0∧x=bq 2:=fun k x h=>by
  unfold jE at h
  rw[fF]at h
  by_cases hk:(0:Int)=k
  ·rw[if_pos hk]at h;exact⟨hk.symm,by cases h;rfl⟩
  ·rw[if_neg hk]at h;cases h
 have hB0:Below w.heap.size w (w.alloc (.map #[] 0)):=wall w _
 constructor
 ·refine⟨(MapKept.heap_alloc w2 _).1,?_,fun k x hx=> ?_,by simp,?_,fun k x hx=> ?_,fun k x hx _=> ?_,fun _ h=>h.elim,fun b hb=> ?_,fun _ h=>h.elim⟩
  ·have:=hM.kept (hw3 _ (by omega))
   exact this
  ·obtain⟨rfl,rfl⟩:=hget k x hx
   refine hi.move (by simp;omega) ?_ (fun _=> ?_) (fun _ h=>h.elim)
   ·rw[hw3 _ (by omega),hK.block _ (by omega) (by omega)]
   ·rw[hw3 _ (by omega),hK.block _ (by omega) (by omega)]
  ·rw[if_neg (by omega)];simp[newG]
  ·obtain⟨rfl,rfl⟩:=hget k x hx
   rw[if_neg (by omega)];simp[newG]
  ·obtain⟨rfl,rfl⟩:=hget k x hx
   rw[if_neg (by omega)];simp[newG]
  ·rw[World.size_alloc]
   by_cases h1:b=w2.heap.size
   ·omega
   ·rw[if_neg h1]at hb
    unfold newG at hb
    by_cases h2:b=w.heap.size
    ·omega
    ·by_cases h3:b=w.heap.size+1
     ·omega
     ·by_cases h4:b=w.heap.size+2
      ·omega
      ·simp[h2,h3,h4]at hb
 ·refine(hB0.trans (hb.mono (by omega))).trans ⟨hK.os,hK.tape,hK.output,by rw[World.size_alloc];omega,fun b hbw=> ?_⟩
  have:=hb.size
  rw[World.size_alloc]at this
  rw[hw3 _ (by omega),hK.block _ (by omega) (by omega)]
set_option maxHeartbeats 1000000 in
theorem Cq (w:World):Calls Tryz.prog 10 #[] w fun e w'=>∃g mb ib nb p,e= .returned (ptr p)∧aK g (fun _=>False) w' p mb ib nb jE∧(∀b,g b≠ .none→w.heap.size≤b)∧Below w.heap.size w w':=by
 have hmm:= @run_makeMap Tryz.prog
 have HST:Hid (∀w1,Below (w.heap.size+1) (w.alloc (.map #[] 0)) w1→∃w2,(Instr.mapUpdate 94 (.map (some w.heap.size)) (.int .i64 0) (ptr (w.heap.size+1))).run Tryz.prog w1= .ok () w2∧MapAt bP w2 w.heap.size (bY bP.lt 0 (ptr (w.heap.size+1)) [])∧w1.mapTurned w2 w.heap.size):=fun w1 hb=>by
  have hm1:MapAt bP w1 w.heap.size []:=(MapAt.made (F:=bP) w).kept (hb.block _ (by omega))
  exact hm1.rG bP Tryz.underlying94 (by show 0<maxLen;unfold maxLen;omega) 0 _ (om (by omega) (by omega))
 go_enter Tryz.func10,Tryz.ntmps10
 go_wp2_with fail
 (with_reducible refine(rQ _ _ _).mono ?_)
 rintro e w1 ⟨rfl,hi1,hb1,hs1,hs2⟩
 rw[World.size_alloc]at hi1 hb1 hs1 hs2
 obtain⟨w2,WT,hM2,KW⟩:=HST.out w1 hb1
 have HI1:=Lib.hid hi1
 have HB1:=Lib.hid hb1
 have F7:=Lib.hid hM2
 have HT2:=Lib.hid KW
 have hs3:=hs2 rfl
 clear hi1 hb1 hM2 KW hs2
 go_wp2_with fail
 go_ret
 obtain⟨h1,h2⟩:=JC HI1.out HB1.out hs3 F7.out HT2.out
 refine⟨_,_,_,_,_,rfl,h1,fun b hb=> ?_,h2⟩
 have h3:=HB1.out.size
 rw[World.size_alloc]at h3
 have h4:=iJ HT2.out
 by_cases e1:b=w2.heap.size
 ·omega
 ·rw[if_neg e1]at hb
  unfold newG at hb
  by_cases e2:b=w.heap.size
  ·omega
  ·by_cases e3:b=w.heap.size+1
   ·omega
   ·by_cases e4:b=w.heap.size+2
    ·omega
    ·simp[e2,e3,e4]at hb
theorem Cr:dA jE:=by
 have hget:∀k x,aj k jE=some x→k=0∧x=bq 2:=fun k x h=>by
  unfold jE at h
  rw[fF]at h
  by_cases hk:(0:Int)=k
  ·rw[if_pos hk]at h;exact⟨hk.symm,by cases h;rfl⟩
  ·rw[if_neg hk]at h;cases h
 refine⟨⟨by simp[jE,aP],rfl,fun k x hx=> ?_,fun k x hx e he=> ?_,by simp[jE],fun k x hx=> ?_⟩,fun k x hx hk=> ?_⟩
 ·obtain⟨rfl,rfl⟩:=hget k x hx;exact wU (.inr rfl)
 ·obtain⟨rfl,rfl⟩:=hget k x hx;cases he
 ·obtain⟨rfl,rfl⟩:=hget k x hx;omega
 ·exact absurd (hget k x hx).1 hk
section
variable {g:Nat→Own} {D:Nat→Prop} {p mb:Nat} {ib nb:Int→Nat} {T:aH}
set_option maxHeartbeats 1000000 in
theorem F8 (id:Int) (hd:kF T id≠0) (w:World) (h:aK g D w p mb ib nb T) (hid:(Lit.int .i64 id).wf=true):
  Calls Tryz.prog 29 #[ptr p, .int .i64 id] w (Turn g D w p mb (dH T id).2 (.int .i64 (dH T id).1)):=by
 have HH:=Lib.hid h
 have hcb:(w.alloc (.cells #[.int .i64 id] 3)).cell? ⟨w.heap.size,0,none⟩=some (.int .i64 id):=jM
 have hA:=h.below (wall w (.cells #[.int .i64 id] 3)) (Nat.le_refl _)
 by_cases hf:bK T id=0
 ·obtain⟨x,hx,hk⟩:=lg hf
  have HF:=Lib.hid (oU id hx hk _ hA hid)
  obtain⟨c0,c1,c2,c3,c4,c5,c7,hiw⟩:=(h.item id x hx).cell
  have hE:kF T id=if x.closed then 27 else 0:=by unfold kF;rw[hx];simp only[if_neg hk]
  cases hcl:x.closed with
  |false=>exact absurd (by rw[hE,hcl];rfl) hd
  |true=>
   have HM:Hid (dH T id=(27,T)):=by
    unfold dH
    rw[hE,hcl];simp only[if_pos];exact rfl
   rw[hcl]at c5
   clear hE hcl hx hk hf h c7 hA hd
   go_enter Tryz.func29,Tryz.ntmps29
   go_wp2_with fail
   (with_reducible refine HF.out.mono ?_)
   rintro e w1 ⟨rfl,rfl⟩
   go_wp2_with fail
   go_ret
   rw[HM.out]
   exact Turn.same HH.out (wall w _) rfl
 ·have hne:(bK T id==0)=false:=by simpa using hf
  have HF:=Lib.hid (ow id _ rfl hf _ hA hid)
  have HM:Hid (dH T id=(bK T id,T)):=by
   unfold dH
   rw[Dw hf,if_neg hf];exact rfl
  obtain⟨k,hk⟩:∃k,k=bK T id:=⟨_,rfl⟩
  rw[←hk]at HF hne HM
  clear hf h hk hA hd
  go_enter Tryz.func29,Tryz.ntmps29
  go_wp2_with fail
  (with_reducible refine HF.out.mono ?_)
  rintro e w1 ⟨rfl,rfl⟩
  go_wp2_with fail
  go_ret
  rw[HM.out]
  exact Turn.same HH.out (wall w _) rfl
end
section
variable {g:Nat→Own} {D:Nat→Prop} {p mb:Nat} {ib nb:Int→Nat} {T:aH}
theorem b_ {id:Int} {x:bF} (hx:aj id T=some x):bZ T id=x.kind:=by unfold bZ;rw[hx]
theorem dA.link (h:dA T) {d id:Int} {x y:bF} {n:Nm} (hx:aj d T=some x) (hxk:x.kind=2) (hn:dG n=true) (hnn:aj n x.names=none) (hy:aj id T=some y) (hyk:y.kind≠2) (hl:y.links<64) (h0:id≠0):
  dA (Go.Proofs.YtohpcppeajijnaaGreat.bf id (fun x=>{x with links:=x.links+1}) (setName T d n id)):=by
 have hdi:id≠d:=fun e=>by subst e;rw[hx]at hy;cases hy;exact hyk hxk
 have hP:=h.totF.set (n:=n) (id:=id) hx hxk hn ⟨by rw[hy];rfl,h0⟩
 have hy1:aj id (setName T d n id)=some y:=by unfold setName;rw[aS,if_neg hdi];exact hy
 have hoy:=h.each id y hy
 have hk1:y.kind=1:=hoy.kind.resolve_right hyk
 have hsame:cn id {y with links:=y.links+1}=cn id y:=rfl
 refine⟨hP.bf (f:=fun x=>{x with links:=x.links+1}) hy1 ⟨hoy.kind,hoy.file,fun h=>absurd h hyk,fun h=> ?_,hoy.sorted,hoy.good,hoy.size,?_,hoy.aQ⟩ rfl (hP.leads id y hy1),fun j z hz hj=> ?_⟩
 ·have:=hoy.links
  have h2:y.links+1=0:=h
  omega
 ·have:=hoy.links
  simp only
  omega
 ·have h1:=jL hP.sorted (fun x=>{x with links:=x.links+1}) hy1 j
  have h1':cn j {y with links:=y.links+1}=cn j y:=rfl
  have h2:=jL h.sorted (fun x=>{x with names:=bY bytesBefore n id x.names}) hx j
  have h3:=Ak (id:=id) hnn j
  have e:fZ (Go.Proofs.YtohpcppeajijnaaGreat.bf id (fun x=>{x with links:=x.links+1}) (setName T d n id)) j=fZ T j+if id=j then 1 else 0:=by
   unfold setName at h1⊢
   rw[h1']at h1
   omega
  rw[e]
  rw[aS]at hz
  by_cases hji:j=id
  ·subst hji
   rw[if_pos rfl,hy1]at hz
   simp only[Option.map_some,Option.some.injEq]at hz
   rw[←hz,if_pos rfl]
   have:=h.counts j y hy hj
   simp only
   omega
  ·rw[if_neg hji]at hz
   rw[if_neg (Ne.symm hji)]
   unfold setName at hz
   rw[aS]at hz
   by_cases hjd:j=d
   ·subst hjd
    rw[if_pos rfl,hx]at hz
    simp only[Option.map_some,Option.some.injEq]at hz
    have:=h.counts j x hx hj
    rw[←hz]
    simp only
    omega
   ·rw[if_neg hjd]at hz
    have:=h.counts j z hz hj
    omega
theorem ni {p:List Nm} {id:Int} (h:aF T 0 p=(id,0)) (hT:dA T):(aj id T).isSome=true:=by
 have:=fA hT p 0 (dW hT) (by rw[h])
 rw[h]at this
 exact this
set_option maxRecDepth 100000 in
set_option maxHeartbeats 8000000 in
theorem Ct {S S':Nat→Prop} (a:Option Addr) (n c:Nat) (ls:List Nm) (a':Option Addr) (n' c':Nat) (ls':List Nm) (w:World) (h:aK g D w p mb ib nb T) (hT:dA T) (hS:aG S w a n (ls.map strOf)) (hS':aG S' w a' n' (ls'.map strOf)) (hc':n'≤c') (jd:n'≤1000000):
  Calls Tryz.prog 16 #[ptr p, .slice a n c, .slice a' n' c'] w (Turn g D w p mb (aO T ls ls').2 (.int .i64 (aO T ls ls').1)):=by
 have HH:=Lib.hid h
 have HT:=Lib.hid hT
 have HF:=Lib.hid (yR a n c ls a' n' c' ls' w hS hS')
 have kK:=Lib.hid (fun w1 (hb:Below w.heap.size w w1)=>oo a n c ls w1 (h.below hb (Nat.le_refl _)) hT (hS.below hb (Nat.le_refl _)))
 have ql:=Lib.hid (fun w1 (hb:Below w.heap.size w w1)=>oQ a' n' c' ls' w1 (h.below hb (Nat.le_refl _)) hT (hS'.below hb (Nat.le_refl _)) hc' jd)
 clear h hT hS hS'
 by_cases hf:ig ls ls'=0
 ·have uO:=Lib.hid hf
  rw[hf]at HF
  clear hf
  obtain⟨⟨id,e0⟩,hq⟩:∃q,q=aF T 0 ls:=⟨_,rfl⟩
  have HQ:=Lib.hid hq
  rw[←hq]at kK
  clear hq
  by_cases he:e0=0
  ·subst he
   obtain⟨y,hy⟩:=Option.isSome_iff_exists.1 (ni HQ.out.symm HT.out)
   have HY:=Lib.hid hy
   have nR:=HT.out.ids id y hy
   have hok:bP.ok id:=om nR.1 (by omega)
   have HG:Hid (aj id (T.map fun q=>(q.1,ptr (ib q.1)))=some (ptr (ib id))):=by rw[dX,hy];rfl
   have HIT:Hid (∀w1,Below w.heap.size w w1→w1.cell? ⟨p,0,none⟩=some (.map (some mb))∧MapAt bP w1 mb (T.map fun q=>(q.1,ptr (ib q.1)))∧w1.cell? ⟨ib id,1,none⟩=some (.int .i64 y.kind)∧w1.cell? ⟨ib id,2,none⟩=some (.int .i64 y.links)):=fun w1 hb=>by
    have h2:=HH.out.below hb (Nat.le_refl _)
    obtain⟨_,c1,c2,_⟩:=(h2.item id y HY.out).cell
    exact⟨h2.cell.1,h2.map,c1,c2⟩
   clear hy
   by_cases hk:y.kind=2
   ·have HM:Hid (aO T ls ls'=(22,T)):=by
     have:jl T ls ls'=22:=by
      unfold jl
      rw[if_neg (by rw[uO.out];simp),←HQ.out,if_neg (by simp),if_pos ((b_ HY.out).trans hk)]
     unfold aO;rw[this,if_neg (by decide)];exact rfl
    go_enter Tryz.func16,Tryz.ntmps16
    go_wp2_with fail
    (with_reducible refine HF.out.mono ?_)
    rintro e w1 ⟨rfl,hb1⟩
    have HB1:=Lib.hid hb1
    clear hb1
    go_wp2_with fail
    (with_reducible refine(kK.out w1 HB1.out).mono ?_)
    rintro e w2 ⟨rfl,rfl⟩
    obtain⟨c0,hmap,c1,c2⟩:=HIT.out w1 HB1.out
    rw[hk]at c1
    have iE:=Lib.hid hmap
    clear hmap
    go_wp2_with (first|(at_lookup;refine aW bP rfl _ _ 94 92 rfl Tryz.underlying94 (Tryz.bI _) rfl iE.out id rfl hok ?_;rw[HG.out]))
    go_ret
    rw[HM.out]
    exact Turn.same HH.out HB1.out rfl
   ·have hkk:(y.kind==2)=false:=by simpa using hk
    by_cases hp:(aC T ls').2.2=0
    ·obtain⟨x,hx,hxk,hnm⟩:=fV HT.out hp
     have hgn:dG (aC T ls').2.1=true:=by
      have:bO ls'=0:=by
       have:=uO.out
       unfold ig at this
       split at this
       ·rename_i h1;exact absurd this h1
       ·exact this
      exact gP this _ hnm
     obtain⟨⟨d,nm,z⟩,hq⟩:∃q,q=aC T ls':=⟨_,rfl⟩
     unfold kZ at ql
     rw[←hq]at hp hx hnm hgn ql
     obtain rfl:z=0:=hp
     have WU:=Lib.hid hq
     have HX:=Lib.hid hx
     have yP:=Lib.hid hgn
     have sN:=Lib.hid hxk
     have LW:=Lib.hid hk
     clear hq hx hgn hxk hnm hk
     have jw:dx.ok nm:=by
      have:=oq nm yP.out
      show nm.length≤maxLen
      unfold maxLen;omega
     have yC:Hid (jl T ls ls'=if (aj nm x.names).isSome then 21 else if 64≤y.links then 4 else 0):=by
      have e1:bB T d=x.names:=by unfold bB;rw[HX.out]
      have e2:mZ T id=y.links:=by unfold mZ;rw[HY.out]
      unfold jl
      rw[if_neg (by rw[uO.out];simp),←HQ.out,if_neg (by simp),if_neg (by rw[b_ HY.out];exact LW.out),←WU.out,if_neg (by simp),e1,e2]
      exact rfl
     have ou:Hid (∀w2,Below w.heap.size w w2→w2.cell? ⟨ib d,7,none⟩=some (.map (some (nb d)))∧MapAt dx w2 (nb d) (bR x)):=fun w2 hb=>by
      have h2:=HH.out.below hb (Nat.le_refl _)
      have hi:=h2.item d x HX.out
      obtain⟨_,_,_,_,_,_,c7,_⟩:=hi.cell
      unfold dJ at c7
      rw[if_pos sN.out]at c7
      exact⟨c7,hi.names sN.out⟩
     cases hj:aj nm x.names with
     |some j=>
      have sO:Hid (aj nm (bR x)=some (.int .i64 j)):=by rw[dP,hj];rfl
      have HM:Hid (aO T ls ls'=(21,T)):=by
       unfold aO;rw[yC.out,hj];simp only[Option.isSome_some,if_true];exact rfl
      clear hj
      go_enter Tryz.func16,Tryz.ntmps16
      go_wp2_with fail
      (with_reducible refine HF.out.mono ?_)
      rintro e w1 ⟨rfl,hb1⟩
      have HB1:=Lib.hid hb1
      clear hb1
      go_wp2_with fail
      (with_reducible refine(kK.out w1 HB1.out).mono ?_)
      rintro e w2 ⟨rfl,rfl⟩
      obtain⟨c0,hmap,c1,c2⟩:=HIT.out w1 HB1.out
      have iE:=Lib.hid hmap
      clear hmap
      go_wp2_with (first|(at_lookup;refine aW bP rfl _ _ 94 92 rfl Tryz.underlying94 (Tryz.bI _) rfl iE.out id rfl hok ?_;rw[HG.out]))
      (with_reducible refine(ql.out w1 HB1.out).mono ?_)
      rintro e w2 ⟨rfl,hb2⟩
      (first|rw[if_pos rfl]|rw[if_pos trivial])
      have HB2:=Lib.hid (HB1.out.trans (hb2.mono HB1.out.size))
      clear hb2
      obtain⟨d7,dY⟩:=ou.out w2 HB2.out
      have rU:=Lib.hid dY
      clear dY
      go_wp2_with (at_lookup;refine aX dx rfl _ _ 107 3 rfl Tryz.underlying107 (Tryz.fP _) rfl rU.out nm rfl jw ?_;rw[sO.out])
      go_ret
      rw[HM.out]
      exact Turn.same HH.out HB2.out rfl
     |none=>
      have sO:Hid (aj nm (bR x)=none):=by rw[dP,hj];rfl
      have HJ:=Lib.hid hj
      clear hj
      by_cases h64:64≤y.links
      ·have HM:Hid (aO T ls ls'=(4,T)):=by
        unfold aO;rw[yC.out,HJ.out];simp only[Option.isSome_none,Bool.false_eq_true,if_false,if_pos h64];first|exact rfl|exact trivial
       have hd:decide ((64:Int)≤y.links)=true:=by simpa using h64
       go_enter Tryz.func16,Tryz.ntmps16
       go_wp2_with fail
       (with_reducible refine HF.out.mono ?_)
       rintro e w1 ⟨rfl,hb1⟩
       have HB1:=Lib.hid hb1
       clear hb1
       go_wp2_with fail
       (with_reducible refine(kK.out w1 HB1.out).mono ?_)
       rintro e w2 ⟨rfl,rfl⟩
       obtain⟨c0,hmap,c1,c2⟩:=HIT.out w1 HB1.out
       have iE:=Lib.hid hmap
       clear hmap
       go_wp2_with (first|(at_lookup;refine aW bP rfl _ _ 94 92 rfl Tryz.underlying94 (Tryz.bI _) rfl iE.out id rfl hok ?_;rw[HG.out]))
       (with_reducible refine(ql.out w1 HB1.out).mono ?_)
       rintro e w2 ⟨rfl,hb2⟩
       (first|rw[if_pos rfl]|rw[if_pos trivial])
       have HB2:=Lib.hid (HB1.out.trans (hb2.mono HB1.out.size))
       clear hb2
       obtain⟨d7,dY⟩:=ou.out w2 HB2.out
       obtain⟨_,_,_,f2⟩:=HIT.out w2 HB2.out
       have rU:=Lib.hid dY
       clear dY
       go_wp2_with (at_lookup;refine aX dx rfl _ _ 107 3 rfl Tryz.underlying107 (Tryz.fP _) rfl rU.out nm rfl jw ?_;rw[sO.out])
       go_ret
       rw[HM.out]
       exact Turn.same HH.out HB2.out rfl
      ·have HM:Hid (aO T ls ls'=(0,bf id (fun x=>{x with links:=x.links+1}) (setName T d nm id))):=by
        unfold aO uG;rw[yC.out,HJ.out,←WU.out,←HQ.out];simp only[Option.isSome_none,Bool.false_eq_true,if_false,if_neg h64,if_pos];first|exact rfl|exact trivial
       have hd:decide ((64:Int)≤y.links)=false:=by simpa using h64
       have hln:=(HT.out.each id y HY.out).links
       have hdi:id≠d:=fun e=>by have h1:=HX.out;rw[←e,HY.out]at h1;cases h1;exact LW.out sN.out
       have QA:=Lib.hid hdi
       have tJ:(bR x).length<maxLen:=by
        have h1:=HT.out.few HX.out
        unfold bR maxLen;rw[List.length_map];omega
       have LG:=Lib.hid tJ
       clear hdi tJ
       go_enter Tryz.func16,Tryz.ntmps16
       go_wp2_with fail
       (with_reducible refine HF.out.mono ?_)
       rintro e w1 ⟨rfl,hb1⟩
       have HB1:=Lib.hid hb1
       clear hb1
       go_wp2_with fail
       (with_reducible refine(kK.out w1 HB1.out).mono ?_)
       rintro e w2 ⟨rfl,rfl⟩
       obtain⟨c0,hmap,c1,c2⟩:=HIT.out w1 HB1.out
       have iE:=Lib.hid hmap
       clear hmap
       go_wp2_with (first|(at_lookup;refine aW bP rfl _ _ 94 92 rfl Tryz.underlying94 (Tryz.bI _) rfl iE.out id rfl hok ?_;rw[HG.out]))
       (with_reducible refine(ql.out w1 HB1.out).mono ?_)
       rintro e w2 ⟨rfl,hb2⟩
       (first|rw[if_pos rfl]|rw[if_pos trivial])
       have HB2:=Lib.hid (HB1.out.trans (hb2.mono HB1.out.size))
       clear hb2
       obtain⟨d7,dY⟩:=ou.out w2 HB2.out
       obtain⟨_,_,_,f2⟩:=HIT.out w2 HB2.out
       have rU:=Lib.hid dY
       have HA2:=Lib.hid (HH.out.below HB2.out (Nat.le_refl _))
       have LX:Hid (∀w3,MapAt dx w3 (nb d) (bY dx.lt nm (.int .i64 id) (bR x))→w2.mapTurned w3 (nb d)→aK g D w3 p mb ib nb (setName T d nm id)∧w3.cell? ⟨ib id,2,none⟩=some (.int .i64 y.links)∧w3.frozen? ⟨ib id,2,none⟩=false∧aj id (setName T d nm id)=some y):=fun w3 hM JD=>by
        have h3:=HA2.out.set (id:=id) HX.out sN.out hM JD
        have hy3:aj id (setName T d nm id)=some y:=by unfold setName;rw[aS,if_neg QA.out];exact HY.out
        exact⟨h3,(h3.item id y hy3).cell.2.2.1,(h3.item id y hy3).frozen 2,hy3⟩
       clear dY
       go_wp2_with (first|(at_lookup;refine aX dx rfl _ _ 107 3 rfl Tryz.underlying107 (Tryz.fP _) rfl rU.out nm rfl jw ?_;rw[sO.out])|(at_mapUpdate;refine kJ dx rfl _ _ _ 107 3 rfl Tryz.underlying107 rfl rU.out LG.out nm (.int .i64 id) rfl rfl jw ?_;intro w5 Qw Al;obtain⟨AP,g2,E_,WV⟩:=LX.out w5 Qw Al;have LY:=Lib.hid AP;have Ym:=Lib.hid WV;have zY:=Lib.hid Al;clear AP Qw Al WV))
       go_ret
       rw[HM.out]
       have AP:=LY.out
       have hgi:=HH.out.lF id y HY.out
       have hgd:=HH.out.ku d x HX.out sN.out
       refine Turn.of rfl (AP.fields Ym.out (fun x=>{x with links:=x.links+1}) rfl rfl rfl (Keeps.gX w5 ⟨ib id,2,none⟩ _) (by rw[size_set]) fun a c hc=>by rw[bJ hc];rfl) ?_
       have k1:Keeps (fun b=>g b≠ .none) w w2:=(Keeps.below HB2.out).mono fun b hb hb'=>absurd hb (by omega)
       have k2:Keeps (fun b=>g b≠ .none) w2 w5:=(dN zY.out).mono fun b _ hb=>by rw[show b=nb d from hb,hgd];simp
       have k3:Keeps (fun b=>g b≠ .none) w5 (w5.setCell ⟨ib id,2,none⟩ (.int .i64 (y.links+1))):=(Keeps.gX w5 ⟨ib id,2,none⟩ _).mono fun b _ hb=>by rw[show b=ib id from hb,hgi];simp
       exact(k1.trans k2 (fun _ _ h=>h)).trans k3 (fun _ _ h=>h)
    ·have hne:((aC T ls').2.2==0)=false:=by simpa using hp
     have hne2:((aC T ls').2.2 !=0)=true:=by simpa using hp
     have HM:Hid (aO T ls ls'=((aC T ls').2.2,T)):=by
      have:jl T ls ls'=(aC T ls').2.2:=by
       unfold jl
       rw[if_neg (by rw[uO.out];simp),←HQ.out,if_neg (by simp),if_neg (by rw[b_ HY.out];exact hk),if_pos hp]
      unfold aO;rw[this,if_neg hp];exact rfl
     have HP:=Lib.hid hp
     unfold kZ at ql
     generalize aC T ls'=q at*
     clear hp hk
     go_enter Tryz.func16,Tryz.ntmps16
     go_wp2_with fail
     (with_reducible refine HF.out.mono ?_)
     rintro e w1 ⟨rfl,hb1⟩
     have HB1:=Lib.hid hb1
     clear hb1
     go_wp2_with fail
     (with_reducible refine(kK.out w1 HB1.out).mono ?_)
     rintro e w2 ⟨rfl,rfl⟩
     obtain⟨c0,hmap,c1,c2⟩:=HIT.out w1 HB1.out
     have iE:=Lib.hid hmap
     clear hmap
     go_wp2_with (first|(at_lookup;refine aW bP rfl _ _ 94 92 rfl Tryz.underlying94 (Tryz.bI _) rfl iE.out id rfl hok ?_;rw[HG.out]))
     (with_reducible refine(ql.out w1 HB1.out).mono ?_)
     rintro e w2 ⟨rfl,hb2⟩
     rw[if_neg HP.out]
     have HB2:=Lib.hid (HB1.out.trans (hb2.mono HB1.out.size))
     clear hb2
     go_wp2_with fail
     go_ret
     rw[HM.out]
     exact Turn.same HH.out HB2.out rfl
  ·have hne:(e0==0)=false:=by simpa using he
   have hne2:(e0 !=0)=true:=by simpa using he
   have HM:Hid (aO T ls ls'=(e0,T)):=by
    have:jl T ls ls'=e0:=by
     unfold jl
     rw[if_neg (by rw[uO.out];simp),←HQ.out,if_pos he]
    unfold aO;rw[this,if_neg he];exact rfl
   clear he
   go_enter Tryz.func16,Tryz.ntmps16
   go_wp2_with fail
   (with_reducible refine HF.out.mono ?_)
   rintro e w1 ⟨rfl,hb1⟩
   have HB1:=Lib.hid hb1
   clear hb1
   go_wp2_with fail
   (with_reducible refine(kK.out w1 HB1.out).mono ?_)
   rintro e w2 ⟨rfl,rfl⟩
   go_wp2_with fail
   go_ret
   rw[HM.out]
   exact Turn.same HH.out HB1.out rfl
 ·have HM:Hid (aO T ls ls'=(ig ls ls',T)):=by
   have:jl T ls ls'=ig ls ls':=by unfold jl;rw[if_pos hf]
   unfold aO;rw[this,if_neg hf];exact rfl
  have hne:(ig ls ls'==0)=false:=by simpa using hf
  have hne2:(ig ls ls' !=0)=true:=by simpa using hf
  clear hf
  go_enter Tryz.func16,Tryz.ntmps16
  go_wp2_with fail
  (with_reducible refine HF.out.mono ?_)
  rintro e w1 ⟨rfl,hb1⟩
  go_wp2_with fail
  go_ret
  rw[HM.out]
  exact Turn.same HH.out hb1 rfl
end
end Go.Proofs.YtohpcppeajijnaaGreat
