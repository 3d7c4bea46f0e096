/- tree: Load. A loaded tree: of saved bytes, under a mark. A drawn region: an operation that its guard does not want, in one line. -/
import Derived.Test.YtohpcppeajijnaaGreatM41
import Derived.Test.YtohpcppeajijnaaGreatM42
import Derived.Test.YtohpcppeajijnaaGreatM37
import Derived.Test.YtohpcppeajijnaaGreatM30
namespace Go.Proofs.YtohpcppeajijnaaGreat
open Go.ChangeShapes Go.WideShapes Go.ChangeAt Go.RowKit
set_option linter.unusedVariables false
set_option linter.unusedSimpArgs false
theorem zN (b:List UInt8):0≤(bW b).1.id∧(bW b).1.id≤65535:=by
 unfold bW
 split
 ·exact(oz b).id
 ·exact⟨by decide,by decide⟩
theorem LX {s:Rd} {q:(Int×bF)×Rd} (h:gU s=some q):0≤q.1.1∧q.1.1≤65535:=by
 unfold gU at h
 dsimp only at h
 split at h
 ·cases h
 ·split at h
  ·split at h
   ·cases h;exact zN _
   ·cases h
  ·split at h
   ·cases h
   ·cases h;exact zN _
def jQ (bs:List UInt8) (w:World) (e:Ending) (w':World):Prop:=
 (∃T p,parseM bs=some T∧kC T∧e= .returned (.tuple #[ptr p, .int .i64 0])∧qJ w p T w')∨((∀T,parseM bs=some T→¬kC T)∧e= .returned (.tuple #[.pointer none, .int .i64 12])∧Below w.heap.size w w')
theorem jQ.no {bs:List UInt8} {w w':World} (h:∀T,parseM bs=some T→¬kC T) (hb:Below w.heap.size w w'):jQ bs w (.returned (.tuple #[.pointer none, .int .i64 12])) w':= .inr ⟨h,rfl,hb⟩
def Q0 (Dr:Nat→Prop) (w w1:World) (x p mb cnt:Nat) (s0:Rd) (lv iv:Value) (wr:World):Prop:=
 ∃(k:Nat) (sr:Rd) (last:Int) (acc:aF) (g:Nat→Own) (D:Nat→Prop) (ib nb:Int→Nat),iv= .int .i64 k∧k≤cnt∧lv= .int .i64 last∧-1≤last∧last≤65535∧mE (cnt-k) sr last acc=mE cnt s0 (-1) []∧(∀q∈acc,q.1≤last)∧acc.length=k∧
  bJ Dr wr x sr∧aJ g D wr p mb ib nb acc∧(∀b,g b≠ .none∨D b→w1.heap.size≤b)∧Below w.heap.size w wr
theorem D9 {w1 w2:World} (hw:w2=(w1.alloc (.map #[] 0)).alloc (.cells #[.map (some w1.heap.size)] 96)):aJ (fun b=>if b=w1.heap.size+1 then .head else if b=w1.heap.size then .items else .none) (fun _=>False) w2 (w1.heap.size+1) w1.heap.size (fun _=>0) (fun _=>0) []:=by
 have hs:w2.heap.size=w1.heap.size+2:=by rw[hw];simp
 refine⟨?_,?_,fun k x h=>(by cases h),by simp,by simp,fun k x h=>(by cases h),fun k x h=>(by cases h),fun b h=>h.elim,fun b hb=> ?_,fun b h=>h.elim⟩
 ·rw[hw]
  have:=(MapKept.heap_alloc (w1.alloc (.map #[] 0)) (.cells #[.map (some w1.heap.size)] 96)).1
  rw[World.size_alloc]at this
  exact this
 ·rw[hw]
  exact(MapAt.made (F:=aW) w1).kept ((wall _ _).block _ (by simp))
 ·by_cases h1:b=w1.heap.size+1
  ·omega
  ·by_cases h2:b=w1.heap.size
   ·omega
   ·rw[if_neg h1,if_neg h2]at hb;exact absurd rfl hb
set_option maxRecDepth 100000 in
set_option maxHeartbeats 16000000 in
theorem GH {S:Nat→Prop} (a:Option Addr) (n c:Nat) (bs:List UInt8) (w:World) (hm:n≤100000000) (hr:av S w a n (bs.map bv)):
  Calls Tryz.prog 47 #[.slice a n c] w (jQ bs w):=by
 have HN:=Lib.hid (ru a n c bs w hm hr)
 have hmm:= @run_makeMap Tryz.prog
 clear hr
 go_enter Tryz.func47,Tryz.ntmps47
 go_wp2_with fail
 (with_reducible refine HN.out.mono ?_)
 rintro e w1 ⟨x,rfl,hx,mM,hb1⟩
 have HX:=Lib.hid hx
 have HB1:=Lib.hid hb1
 have hxw:=mM.lt
 have HR1:=Lib.hid mM
 clear hx hb1 mM HN
 go_wp2_with fail
 obtain⟨w2,hw2⟩:∃w2,w2=(w1.alloc (.map #[] 0)).alloc (.cells #[.map (some w1.heap.size)] 96):=⟨_,rfl⟩
 rw[←hw2]
 have hb2:Below w1.heap.size w1 w2:=by rw[hw2];exact(wall w1 _).trans ((wall _ _).mono (by simp))
 have HT2:=Lib.hid (D9 hw2)
 have hs2:w2.heap.size=w1.heap.size+2:=by rw[hw2];simp
 have HB2:=Lib.hid hb2
 obtain⟨Dr,UJ⟩:∃Dr:Nat→Prop,Dr=fun b=>w.heap.size≤b∧b<x:=⟨_,rfl⟩
 have HDR:=Lib.hid (fun b (hb:Dr b)=>(by rw[UJ]at hb;exact hb:w.heap.size≤b∧b<x))
 rw[←UJ]at HR1
 have HR2:=Lib.hid (HR1.out.below hb2 (Nat.le_refl _))
 have HS:=Lib.hid (mD HR2.out)
 obtain⟨cnt,hcnt⟩:∃cnt:Nat,(bQ (bs,0) 2).1=(cnt:Int):=⟨(bQ (bs,0) 2).1.toNat,by have:=fE (bs,0) 2;omega⟩
 have hcb:cnt<65536:=by
  have h1:=fE (bs,0) 2
  have:(256:Int)^2=65536:=rfl
  omega
 obtain⟨s0,hs0⟩:∃t,t=(bQ (bs,0) 2).2:=⟨_,rfl⟩
 rw[hcnt,←hs0]at HS
 have RI:Hid (parseM bs=match mE cnt s0 (-1) []with|none=>none|some q=>if nQ q.2=0 then some q.1 else none):=by
  show _=_
  unfold parseM
  rw[hcnt,←hs0,Int.toNat_natCast]
  rfl
 clear hw2 hb2 UJ hcnt hs0 hmm
 go_wp2_with fail
 (with_reducible refine HS.out.mono ?_)
 rintro e w3 ⟨rfl,rE,hK3⟩
 have HR3:=Lib.hid rE
 have HB3:Hid (Below w.heap.size w w3):=HB1.out.trans ((HB2.out.mono HB1.out.size).trans (qg hK3 HX.out (by have:=HB1.out.size;omega)))
 have HT3:=Lib.hid (HT2.out.keeps hK3 fun z hz (e:z=x)=>by
  subst e
  rcases hz with hz|hz
  ·rw[if_neg (by omega),if_neg (by omega)]at hz
   exact hz rfl
  ·exact hz)
 clear rE hK3 HS HR2 HT2
 go_wp2_with fail
 go_loopw [6,7,8,16] (fun lv _ _ iv wr=>Q0 Dr w w1 x (w1.heap.size+1) w1.heap.size cnt s0 lv iv wr) (fun _ _ _ iv _=>cnt-(intOf iv).toNat)
 case atStart=>
  refine⟨0,s0,-1,[],_,_,_,_,rfl,Nat.zero_le _,rfl,by omega,by omega,rfl,fun q hq=>(by cases hq),rfl,HR3.out,HT3.out,fun b hb=> ?_,HB3.out⟩
  rcases hb with hb|hb
  ·refine Classical.byContradiction fun hn=> ?_
   rw[if_neg (by omega),if_neg (by omega)]at hb
   exact hb rfl
  ·exact hb.elim
 case round=>
  obtain⟨k,sr,last,acc,g,D,ib,nb,rfl,hk,rfl,hl0,hl1,hrd,hal,hac,hRr,hTr,hnew,hB⟩:=hrel
  have Q5:=Lib.hid hrd
  have OM:=Lib.hid hal
  have Px:=Lib.hid hac
  have HRR:=Lib.hid hRr
  have Gf:=Lib.hid hTr
  have GI:=Lib.hid hnew
  have HB:=Lib.hid hB
  clear hrd hal hac hRr hTr hnew hB
  by_cases hlt:k<cnt
  ·have HI:=Lib.hid (Gy HRR.out)
   go_wp2_with fail
   (with_reducible refine HI.out.mono ?_)
   rintro e w4 ⟨hK4,Jk⟩
   have dX:Hid (Below w.heap.size w w4):=HB.out.trans (qg hK4 HX.out HB.out.size)
   cases hq:gU sr with
   |none=>
    rw[hq]at Jk
    obtain⟨v,rfl⟩:=Jk
    have HF:Hid (∀T,parseM bs=some T→¬kC T):=fun T hT=>by
     rw[RI.out,←Q5.out,show cnt-k=(cnt-(k+1))+1 by omega,uZ hq]at hT
     cases hT
    clear hq hK4 HI
    go_wp2_with fail
    go_ret2
    exact jQ.no HF.out dX.out
   |some q=>
    rw[hq]at Jk
    obtain⟨i,nn,D3,rfl,GQ,RJ,hi1,hi2,hn1,hd3⟩:=Jk
    obtain⟨q0,q1⟩:=LX hq
    obtain⟨c0,-,-,-,-,-,-,hiw⟩:=RJ.cell
    by_cases hle:q.1.1≤last
    ·have HF:Hid (∀T,parseM bs=some T→¬kC T):=fun T hT=>by
      rw[RI.out,←Q5.out,show cnt-k=(cnt-(k+1))+1 by omega,mV hq,if_pos hle]at hT
      cases hT
     have d1:decide (q.1.1≤last)=true:=by simpa using hle
     clear hq hK4 GQ RJ hn1 hd3 HI hle
     go_wp2_with fail
     go_ret2
     exact jQ.no HF.out dX.out
    ·have d1:decide (q.1.1≤last)=false:=by simpa using hle
     have hxg:g x= .none:=Classical.byContradiction fun hn=>by have:=GI.out x (.inl hn);omega
     have hxd:¬D x:=fun hn=>by have:=GI.out x (.inr hn);omega
     have pK:aJ g D w4 (w1.heap.size+1) w1.heap.size ib nb acc:=Gf.out.keeps hK4 fun z hz (e:z=x)=>by
      subst e
      rcases hz with hz|hz
      ·exact hz hxg
      ·exact hxd hz
     obtain⟨hc4,Ym,Yn⟩:=pK.cell
     have Q6:aW.ok q.1.1:=l6 q0 (by omega)
     have hlast:∀y∈acc,y.1≠q.1.1∧fT q.1.1 y.1=false:=fun y hy=>by
      have h9:=OM.out y hy
      exact⟨by omega,decide_eq_false (by omega)⟩
     have GD:Hid (bT fT q.1.1 q.1.2 acc=acc++[q.1]):=zJ fT q.1.2 hlast
     have V6:Hid (aj q.1.1 acc=none):=gZ.2 fun y hy=>(hlast y hy).1
     have HLEN:Hid ((acc.map fun q=>(q.1,ptr (ib q.1))).length<maxLen):=by
      show _<_
      rw[List.length_map,Px.out]
      unfold maxLen
      omega
     have vG:=Lib.hid pK.map
     have rJ:=Lib.hid pK
     have HQ:=Lib.hid hq
     have Cy:=Lib.hid hK4
     have HR4:=Lib.hid GQ
     have HI4:=Lib.hid RJ
     have HI1:=Lib.hid (And.intro hi1 hi2)
     have Pg:=Lib.hid hn1
     have HD3:=Lib.hid hd3
     have zU:=Lib.hid hle
     have hs4:=hK4.size
     clear hq hK4 GQ RJ hn1 hd3 HI hle pK hlast hxg hxd
     obtain⟨qk,hqk⟩:∃qk,qk=q.1.1:=⟨_,rfl⟩
     rw[←hqk]at c0 d1 Q6 GD V6 HI4 zU q0 q1
     have UK:=Lib.hid hqk
     clear hqk
     go_wp2_with (at_mapUpdate;refine gH aW rfl _ _ _ 94 92 rfl Tryz.underlying94 rfl vG.out HLEN.out qk (ptr i) rfl rfl Q6 ?_;intro w5 M8 Hr;have JZ:=Lib.hid M8;have yO:=Lib.hid Hr;clear M8 Hr)
     go_roundw
     case rel=>
      have hs5:=iq yO.out
      have hn1:=Pg.out
      have Yo:=HI1.out.1
      have Yp:=HI1.out.2
      have hnone:∀b,wr.heap.size≤b→g b= .none∧¬D b:=fun b hb=>⟨Classical.byContradiction fun hn=>by have:=Gf.out.low b hn;omega,fun hn=>by have:=Gf.out.nW b hn;omega⟩
      have hmr:=Gf.out.cell.2.2
      have hkeep:∀b,b<w4.heap.size→b≠w1.heap.size→w5.heap[b]? =w4.heap[b]? :=fun b hb hne=>dD yO.out b hb hne
      have hi5:iG D3 w5 qk i nn q.1.2:=HI4.out.move (by omega) (hkeep _ (by omega) (by omega)) (fun hk2=>hkeep _ (by have:=(hn1 hk2).2.1;omega) (by have:=(hn1 hk2).1;omega)) fun b hb hbw=>⟨hb,hkeep b hbw (by have:=(HD3.out b hb).1;omega)⟩
      have Ay:=rJ.out.add2 (w':=w5) (D2:=D3) (k:=qk) (x:=q.1.2) (i:=i) (n:=nn) (hnone i (by omega)) (fun hk2=>hnone nn (hn1 hk2).1) (fun hk2=>(hn1 hk2).2.2) (by omega) (fun hk2=>by have:=(hn1 hk2).2.1;omega) V6.out JZ.out (by omega) (fun b hb _ hne=>hkeep b hb hne) hi5 (fun b hb=>by
       obtain⟨e1,e2,e3,e4⟩:=HD3.out b hb
       exact⟨(hnone b e1).1,by omega,e3,e4⟩)
      rw[GD.out]at Ay
      refine⟨k+1,q.2,qk,acc++[q.1],_,_,_,_,by go_num,by omega,rfl,by omega,by omega,?_,fun y hy=> ?_,by rw[List.length_append,Px.out];rfl,?_,Ay,fun b hb=> ?_,?_⟩
      ·rw[←Q5.out,show cnt-k=(cnt-(k+1))+1 by omega,mV HQ.out,if_neg (by rw[←UK.out];have:=zU.out;omega),←UK.out]
      ·rcases List.mem_append.1 hy with h9|h9
       ·have:=OM.out y h9
        have:=zU.out
        omega
       ·simp only[List.mem_singleton]at h9
        rw[h9,←UK.out]
        exact Int.le_refl _
      ·exact HR4.out.kept (by omega) (hkeep x (by have:=HR4.out.lt;omega) (by omega)) fun b hb hbw=>hkeep b hbw (by have:=HDR.out b hb;omega)
      ·have Yq:w1.heap.size≤wr.heap.size:=by omega
       rcases hb with hb|hb
       ·by_cases e1:b=i
        ·omega
        ·by_cases e2:b=nn∧q.1.2.kind=2
         ·have:=(hn1 e2.2).1;omega
         ·rw[if_neg e1,if_neg e2]at hb
          exact GI.out b (.inl hb)
       ·rcases hb with hb|hb
        ·exact GI.out b (.inr hb)
        ·have:=(HD3.out b hb).1;omega
      ·exact dX.out.trans ((Keeps.turned yO.out).jd (by have:=dX.out.size;omega) fun z hz (e:z=w1.heap.size)=>by have:=HB1.out.size;omega)
     case measure=>simp[intOf];omega
  ·obtain rfl:k=cnt:=by omega
   have HE:=Lib.hid (DR HRR.out)
   by_cases hz:nQ sr=0
   ·have hpa:parseM bs=some acc:=by
     rw[RI.out,←Q5.out,Nat.sub_self,mU]
     dsimp only
     rw[if_pos hz]
    have LA:=Lib.hid (D8 wr Gf.out (Gs hpa).2)
    have V7:=Lib.hid hpa
    rw[hz]at HE
    clear hz hpa
    go_wp2_with fail
    (with_reducible refine HE.out.mono ?_)
    rintro e _ ⟨rfl,rfl⟩
    go_wp2_with fail
    (with_reducible refine LA.out.mono ?_)
    rintro e w4 ⟨hb4,r,rfl,hiff⟩
    have dX:=Lib.hid hb4
    cases r with
    |true=>
     have UL:=Lib.hid (hiff.1 rfl)
     clear hiff hb4
     go_wp2_with fail
     go_ret2
     exact .inl ⟨acc,_,V7.out,UL.out,rfl,g,D,w1.heap.size,ib,nb,Gf.out.below dX.out (Nat.le_refl _),fun b hb=>by have:=GI.out b (.inl hb);have:=HB1.out.size;omega,fun b hb=>by have:=GI.out b (.inr hb);have:=HB1.out.size;omega,HB.out.trans (dX.out.mono HB.out.size)⟩
    |false=>
     have UL:Hid (∀T,parseM bs=some T→¬kC T):=fun T hT hR=>by
      rw[V7.out]at hT
      cases hT
      have:=hiff.2 hR
      cases this
     clear hiff hb4
     go_wp2_with fail
     go_ret2
     exact jQ.no UL.out (HB.out.trans (dX.out.mono HB.out.size))
   ·have d1:(nQ sr !=0)=true:=by simpa using hz
    have HF:Hid (∀T,parseM bs=some T→¬kC T):=fun T hT=>by
     rw[RI.out,←Q5.out,Nat.sub_self,mU]at hT
     dsimp only at hT
     rw[if_neg hz]at hT
     cases hT
    clear hz
    go_wp2_with fail
    (with_reducible refine HE.out.mono ?_)
    rintro e _ ⟨rfl,rfl⟩
    go_wp2_with fail
    go_ret2
    exact jQ.no HF.out HB.out
theorem jQ.yes {T:aF} {w w':World} {e:Ending} (h:jQ (iY T) w e w') (hT:fU T):∃p,e= .returned (.tuple #[ptr p, .int .i64 0])∧qJ w p T w':=by
 rcases h with⟨U,p,h1,h2,h3,h4⟩|⟨h1,_⟩
 ·rw[xG (fU.ME hT.1)]at h1
  cases h1
  exact⟨p,h3,h4⟩
 ·exact absurd (DZ hT) (h1 T (xG (fU.ME hT.1)))
theorem qJ.below {w w':World} {p:Nat} {T:aF} (h:qJ w p T w'):Below w.heap.size w w':=by
 obtain⟨g,D,mb,ib,nb,hA,hg,hD,hb⟩:=h
 exact hb
theorem Marks.step1 {W w w':World} {o o':Mark} {m:Nat} (hM:Marks W o w) (hm:0<m) (hs:Step o (fun k=>k=m) w o' w'):Marks W o' w':=hM.step (I:=fun k=>k=m) (fun e=>by have e':0=m:=e;omega) hs
theorem av.Q7 {w w':World} {o o':Mark} {m n:Nat} {a:Option Addr} {vs:List Value} (h:av (Free o w) w a n vs) (hm:0<m) (hs:Step o (fun k=>k=m) w o' w'):av (Free o' w') w' a n vs:=h.free (I:=fun k=>k=m) (fun e=>by have e':0=m:=e;omega) hs
theorem f_.step1 {w w':World} {o o':Mark} {m j p:Nat} {T:aF} (h:f_ o j w p T) (hm:0<m) (hj:j≠m) (hs:Step o (fun k=>k=m) w o' w'):f_ o' j w' p T:=h.step (I:=fun k=>k=m) (fun e=>by have e':0=m:=e;omega) (fun e=>hj e) hs
section
variable {W w:World} {o:Mark} {p:Nat} {T:aF}
theorem qJ.mark {w':World} (h:qJ w p T w') (hM:Marks W o w) (j:Nat):∃o',Step o (fun k=>k=j) w o' w'∧f_ o' j w' p T:=by
 obtain⟨g,D,mb,ib,nb,hA,hg,hD,hb⟩:=h
 obtain⟨o',hs,h1,h2⟩:=Ce hM j (fun b=>g b≠ .none) (fun b hb'=>⟨hg b hb',hA.low b hb'⟩) hb
 refine⟨o',hs,g,D,mb,ib,nb,hA,fun b hb'=>h1 b hb',fun b hb'=> ?_⟩
 rw[h2 b (by rw[hA.data b hb'];simp)]
 exact Decidable.byContradiction fun h9=>by have:=(hM.new b h9).2;have:=hD b hb';omega
end
open Go
theorem b_ {P:Program} {ops:Array Oper} {Q:Exit→Act→World→Prop} {md:Region.Mode} {S:World→Prop} (i:Nat) {oi:Oper} {fuel:Nat} {listed l':Array Bool} {a a':Act} {w:World}
  (hi:ops[i]? =some oi:=by simp only[List.getElem?_toArray,List.getElem?_cons_succ,List.getElem?_cons_zero];rfl)
  (hs:Region.noSelect ops=true:=by kernel_rfl) (hf:Region.free md ops listed i=true:=by kernel_rfl) (hr:(Region.ready md ops listed).contains i=true:=by kernel_rfl)
  (hQ:∀c a w,Q (.panic c) (a.put oi.dst undef) w→Q (.panic c) a w:=by exact fun _ _ _ h=>h)
  (hw:Region.wanted oi (yielded ops a.tmps)=false:=by rfl)
  (hl:listed.setIfInBounds i true=l':=by(try simp only[List.setIfInBounds_toArray,List.set_cons_zero,List.set_cons_succ]);rfl)
  (ha:a.put oi.dst undef=a':=by(try simp only[Act.put,List.setIfInBounds_toArray,List.set_cons_zero,List.set_cons_succ]);rfl)
  (hS:S w) (h:wpAnyH P md ops Q S fuel l' a' w):wpAnyH P md ops Q S (fuel+1) listed a w:=
 wpAnyH_take hi hs hf hr hQ (Or.inr ⟨hw,rfl⟩) hS (by rw[hl,ha];exact h)
end Go.Proofs.YtohpcppeajijnaaGreat
