/- tree: Load. A loaded tree: of saved bytes, under a mark. package snap: read, of bytes that Save wrote. package snap: read, of bytes that Save wrote. -/
import Derived.Test.YtmabllemjkcobaaGreatDoorM47
import Derived.Test.YtmabllemjkcobaaGreatDoorM48
import Derived.Test.YtmabllemjkcobaaGreatDoorM23
import Derived.Test.YtmabllemjkcobaaGreatDoorM44
import Derived.Test.YtmabllemjkcobaaGreatDoorM28
import Derived.Test.YtmabllemjkcobaaGreatDoorM04
namespace Go.Proofs.YtmabllemjkcobaaGreatDoor
open Go.ChangeShapes Go.WideShapes Go.ChangeAt Go.RowKit
set_option linter.unusedVariables false
set_option linter.unusedSimpArgs false
theorem AQ (b:List UInt8):0≤(bN b).1.id∧(bN b).1.id≤65535:=by
 unfold bN
 split
 ·exact(qb b).id
 ·exact⟨by decide,by decide⟩
theorem Rs {s:Rd} {q:(Int×eB)×Rd} (h:h_ s=some q):0≤q.1.1∧q.1.1≤65535:=by
 unfold h_ at h
 dsimp only at h
 split at h
 ·cases h
 ·split at h
  ·split at h
   ·cases h;exact AQ _
   ·cases h
  ·split at h
   ·cases h
   ·cases h;exact AQ _
def jh (bs:List UInt8) (w:World) (e:Ending) (w':World):Prop:=
 (∃T p,parseM bs=some T∧lD T∧e= .returned (.tuple #[ptr p, .int .i64 0])∧nX w p T w')∨((∀T,parseM bs=some T→¬lD T)∧e= .returned (.tuple #[.pointer none, .int .i64 12])∧Below w.heap.size w w')
theorem jh.no {bs:List UInt8} {w w':World} (h:∀T,parseM bs=some T→¬lD T) (hb:Below w.heap.size w w'):jh bs w (.returned (.tuple #[.pointer none, .int .i64 12])) w':= .inr ⟨h,rfl,hb⟩
def Ya (Dr:Nat→Prop) (w w1:World) (x p mb cnt:Nat) (s0:Rd) (lv iv:Value) (wr:World):Prop:=
 ∃(k:Nat) (sr:Rd) (last:Int) (acc:aK) (g:Nat→Own) (D:Nat→Prop) (ib nb:Int→Nat),iv= .int .i64 k∧k≤cnt∧lv= .int .i64 last∧-1≤last∧last≤65535∧nk (cnt-k) sr last acc=nk cnt s0 (-1) []∧(∀q∈acc,q.1≤last)∧acc.length=k∧
  aZ Dr wr x sr∧aC g D wr p mb ib nb acc∧(∀b,g b≠ .none∨D b→w1.heap.size≤b)∧Below w.heap.size w wr
theorem Gw {w1 w2:World} (hw:w2=(w1.alloc (.map #[] 0)).alloc (.cells #[.map (some w1.heap.size)] 97)):aC (fun b=>if b=w1.heap.size+1 then .head else if b=w1.heap.size then .items else .none) (fun _=>False) w2 (w1.heap.size+1) w1.heap.size (fun _=>0) (fun _=>0) []:=by
 have hs:w2.heap.size=w1.heap.size+2:=by rw[hw];simp
 refine⟨?_,?_,fun k x h=>(by cases h),by simp,by simp,fun k x h=>(by cases h),fun k x h=>(by cases h),fun b h=>h.elim,fun b hb=> ?_,fun b h=>h.elim⟩
 ·rw[hw]
  have:=(MapKept.heap_alloc (w1.alloc (.map #[] 0)) (.cells #[.map (some w1.heap.size)] 97)).1
  rw[World.size_alloc]at this
  exact this
 ·rw[hw]
  exact(MapAt.made (F:=aP) w1).kept ((wall _ _).block _ (by simp))
 ·by_cases h1:b=w1.heap.size+1
  ·omega
  ·by_cases h2:b=w1.heap.size
   ·omega
   ·rw[if_neg h1,if_neg h2]at hb;exact absurd rfl hb
set_option maxRecDepth 100000 in
set_option maxHeartbeats 16000000 in
theorem AU {S:Nat→Prop} (a:Option Addr) (n c:Nat) (bs:List UInt8) (w:World) (hm:n≤100000000) (hr:aj S w a n (bs.map bv)):
  Calls Tryz.prog 91 #[.slice a n c] w (jh bs w):=by
 have HN:=Lib.hid (oq a n c bs w hm hr)
 have hmm:= @run_makeMap Tryz.prog
 clear hr
 go_enter Tryz.func91,Tryz.ntmps91
 go_wp2_with fail
 (with_reducible refine HN.out.mono ?_)
 rintro e w1 ⟨x,rfl,hx,kP,hb1⟩
 have HX:=Lib.hid hx
 have HB1:=Lib.hid hb1
 have hxw:=kP.lt
 have HR1:=Lib.hid kP
 clear hx hb1 kP HN
 go_wp2_with fail
 obtain⟨w2,hw2⟩:∃w2,w2=(w1.alloc (.map #[] 0)).alloc (.cells #[.map (some w1.heap.size)] 97):=⟨_,rfl⟩
 rw[←hw2]
 have hb2:Below w1.heap.size w1 w2:=by rw[hw2];exact(wall w1 _).trans ((wall _ _).mono (by simp))
 have HT2:=Lib.hid (Gw hw2)
 have hs2:w2.heap.size=w1.heap.size+2:=by rw[hw2];simp
 have HB2:=Lib.hid hb2
 obtain⟨Dr,hDr⟩:∃Dr:Nat→Prop,Dr=fun b=>w.heap.size≤b∧b<x:=⟨_,rfl⟩
 have HDR:=Lib.hid (fun b (hb:Dr b)=>(by rw[hDr]at hb;exact hb:w.heap.size≤b∧b<x))
 rw[←hDr]at HR1
 have HR2:=Lib.hid (HR1.out.below hb2 (Nat.le_refl _))
 have HS:=Lib.hid (nu HR2.out)
 obtain⟨cnt,hcnt⟩:∃cnt:Nat,(bg (bs,0) 2).1=(cnt:Int):=⟨(bg (bs,0) 2).1.toNat,by have:=fT (bs,0) 2;omega⟩
 have hcb:cnt<65536:=by
  have h1:=fT (bs,0) 2
  have:(256:Int)^2=65536:=rfl
  omega
 obtain⟨s0,hs0⟩:∃t,t=(bg (bs,0) 2).2:=⟨_,rfl⟩
 rw[hcnt,←hs0]at HS
 have Ud:Hid (parseM bs=match nk cnt s0 (-1) []with|none=>none|some q=>if nG q.2=0 then some q.1 else none):=by
  show _=_
  unfold parseM
  rw[hcnt,←hs0,Int.toNat_natCast]
  rfl
 clear hw2 hb2 hDr hcnt hs0 hmm
 go_wp2_with fail
 (with_reducible refine HS.out.mono ?_)
 rintro e w3 ⟨rfl,EH,hK3⟩
 have HR3:=Lib.hid EH
 have HB3:Hid (Below w.heap.size w w3):=HB1.out.trans ((HB2.out.mono HB1.out.size).trans (qY hK3 HX.out (by have:=HB1.out.size;omega)))
 have HT3:=Lib.hid (HT2.out.keeps hK3 fun z hz (e:z=x)=>by
  subst e
  rcases hz with hz|hz
  ·rw[if_neg (by omega),if_neg (by omega)]at hz
   exact hz rfl
  ·exact hz)
 clear EH hK3 HS HR2 HT2
 go_wp2_with fail
 go_loopw [6,7,8,16] (fun lv _ _ iv wr=>Ya Dr w w1 x (w1.heap.size+1) w1.heap.size cnt s0 lv iv wr) (fun _ _ _ iv _=>cnt-(intOf iv).toNat)
 case atStart=>
  refine⟨0,s0,-1,[],_,_,_,_,rfl,Nat.zero_le _,rfl,by omega,by omega,rfl,fun q hq=>(by cases hq),rfl,HR3.out,HT3.out,fun b hb=> ?_,HB3.out⟩
  rcases hb with hb|hb
  ·refine Classical.byContradiction fun hn=> ?_
   rw[if_neg (by omega),if_neg (by omega)]at hb
   exact hb rfl
  ·exact hb.elim
 case round=>
  obtain⟨k,sr,last,acc,g,D,ib,nb,rfl,hk,rfl,hl0,hl1,hrd,hal,hac,hRr,hTr,hnew,hB⟩:=hrel
  have JW:=Lib.hid hrd
  have UU:=Lib.hid hal
  have VD:=Lib.hid hac
  have HRR:=Lib.hid hRr
  have zu:=Lib.hid hTr
  have KS:=Lib.hid hnew
  have HB:=Lib.hid hB
  clear hrd hal hac hRr hTr hnew hB
  by_cases hlt:k<cnt
  ·have HI:=Lib.hid (KP HRR.out)
   go_wp2_with fail
   (with_reducible refine HI.out.mono ?_)
   rintro e w4 ⟨hK4,C9⟩
   have iq:Hid (Below w.heap.size w w4):=HB.out.trans (qY hK4 HX.out HB.out.size)
   cases hq:h_ sr with
   |none=>
    rw[hq]at C9
    obtain⟨v,rfl⟩:=C9
    have HF:Hid (∀T,parseM bs=some T→¬lD T):=fun T hT=>by
     rw[Ud.out,←JW.out,show cnt-k=(cnt-(k+1))+1 by omega,wo hq]at hT
     cases hT
    clear hq hK4 HI
    go_wp2_with fail
    go_ret2
    exact jh.no HF.out iq.out
   |some q=>
    rw[hq]at C9
    obtain⟨i,nn,D3,rfl,zq,YW,hi1,hi2,hn1,hd3⟩:=C9
    obtain⟨q0,q1⟩:=Rs hq
    obtain⟨c0,-,-,-,-,-,-,hiw⟩:=YW.cell
    by_cases hle:q.1.1≤last
    ·have HF:Hid (∀T,parseM bs=some T→¬lD T):=fun T hT=>by
      rw[Ud.out,←JW.out,show cnt-k=(cnt-(k+1))+1 by omega,nV hq,if_pos hle]at hT
      cases hT
     have d1:decide (q.1.1≤last)=true:=by simpa using hle
     clear hq hK4 zq YW hn1 hd3 HI hle
     go_wp2_with fail
     go_ret2
     exact jh.no HF.out iq.out
    ·have d1:decide (q.1.1≤last)=false:=by simpa using hle
     have hxg:g x= .none:=Classical.byContradiction fun hn=>by have:=KS.out x (.inl hn);omega
     have hxd:¬D x:=fun hn=>by have:=KS.out x (.inr hn);omega
     have kN:aC g D w4 (w1.heap.size+1) w1.heap.size ib nb acc:=zu.out.keeps hK4 fun z hz (e:z=x)=>by
      subst e
      rcases hz with hz|hz
      ·exact hz hxg
      ·exact hxd hz
     obtain⟨hc4,hpw4,hmw4⟩:=kN.cell
     have Yb:aP.ok q.1.1:=gB q0 (by omega)
     have hlast:∀y∈acc,y.1≠q.1.1∧jw q.1.1 y.1=false:=fun y hy=>by
      have h9:=UU.out y hy
      exact⟨by omega,decide_eq_false (by omega)⟩
     have nE:Hid (cO jw q.1.1 q.1.2 acc=acc++[q.1]):=AJ jw q.1.2 hlast
     have Ht:Hid (ah q.1.1 acc=none):=ji.2 fun y hy=>(hlast y hy).1
     have HLEN:Hid ((acc.map fun q=>(q.1,ptr (ib q.1))).length<maxLen):=by
      show _<_
      rw[List.length_map,VD.out]
      unfold maxLen
      omega
     have lT:=Lib.hid kN.map
     have Ew:=Lib.hid kN
     have HQ:=Lib.hid hq
     have ny:=Lib.hid hK4
     have HR4:=Lib.hid zq
     have HI4:=Lib.hid YW
     have HI1:=Lib.hid (And.intro hi1 hi2)
     have vS:=Lib.hid hn1
     have HD3:=Lib.hid hd3
     have rU:=Lib.hid hle
     have hs4:=hK4.size
     clear hq hK4 zq YW hn1 hd3 HI hle kN hlast hxg hxd
     obtain⟨qk,hqk⟩:∃qk,qk=q.1.1:=⟨_,rfl⟩
     rw[←hqk]at c0 d1 Yb nE Ht HI4 rU q0 q1
     have HQK:=Lib.hid hqk
     clear hqk
     go_wp2_with (at_mapUpdate;refine gT aP rfl _ _ _ 95 88 rfl Tryz.underlying95 rfl lT.out HLEN.out qk (ptr i) rfl rfl Yb ?_;intro w5 Lu CP;have wT:=Lib.hid Lu;have EX:=Lib.hid CP;clear Lu CP)
     go_roundw
     case rel=>
      have hs5:=gQ EX.out
      have hn1:=vS.out
      have hi1':=HI1.out.1
      have hi2':=HI1.out.2
      have hnone:∀b,wr.heap.size≤b→g b= .none∧¬D b:=fun b hb=>⟨Classical.byContradiction fun hn=>by have:=zu.out.low b hn;omega,fun hn=>by have:=zu.out.l5 b hn;omega⟩
      have hmr:=zu.out.cell.2.2
      have hkeep:∀b,b<w4.heap.size→b≠w1.heap.size→w5.heap[b]? =w4.heap[b]? :=fun b hb hne=>bQ EX.out b hb hne
      have hi5:iA D3 w5 qk i nn q.1.2:=HI4.out.move (by omega) (hkeep _ (by omega) (by omega)) (fun hk2=>hkeep _ (by have:=(hn1 hk2).2.1;omega) (by have:=(hn1 hk2).1;omega)) fun b hb hbw=>⟨hb,hkeep b hbw (by have:=(HD3.out b hb).1;omega)⟩
      have B_:=Ew.out.add2 (w':=w5) (D2:=D3) (k:=qk) (x:=q.1.2) (i:=i) (n:=nn) (hnone i (by omega)) (fun hk2=>hnone nn (hn1 hk2).1) (fun hk2=>(hn1 hk2).2.2) (by omega) (fun hk2=>by have:=(hn1 hk2).2.1;omega) Ht.out wT.out (by omega) (fun b hb _ hne=>hkeep b hb hne) hi5 (fun b hb=>by
       obtain⟨e1,e2,e3,e4⟩:=HD3.out b hb
       exact⟨(hnone b e1).1,by omega,e3,e4⟩)
      rw[nE.out]at B_
      refine⟨k+1,q.2,qk,acc++[q.1],_,_,_,_,by go_num,by omega,rfl,by omega,by omega,?_,fun y hy=> ?_,by rw[List.length_append,VD.out];rfl,?_,B_,fun b hb=> ?_,?_⟩
      ·rw[←JW.out,show cnt-k=(cnt-(k+1))+1 by omega,nV HQ.out,if_neg (by rw[←HQK.out];have:=rU.out;omega),←HQK.out]
      ·rcases List.mem_append.1 hy with h9|h9
       ·have:=UU.out y h9
        have:=rU.out
        omega
       ·simp only[List.mem_singleton]at h9
        rw[h9,←HQK.out]
        exact Int.le_refl _
      ·exact HR4.out.kept (by omega) (hkeep x (by have:=HR4.out.lt;omega) (by omega)) fun b hb hbw=>hkeep b hbw (by have:=HDR.out b hb;omega)
      ·have hw1r:w1.heap.size≤wr.heap.size:=by omega
       rcases hb with hb|hb
       ·by_cases e1:b=i
        ·omega
        ·by_cases e2:b=nn∧q.1.2.kind=2
         ·have:=(hn1 e2.2).1;omega
         ·rw[if_neg e1,if_neg e2]at hb
          exact KS.out b (.inl hb)
       ·rcases hb with hb|hb
        ·exact KS.out b (.inr hb)
        ·have:=(HD3.out b hb).1;omega
      ·exact iq.out.trans ((Keeps.turned EX.out).gP (by have:=iq.out.size;omega) fun z hz (e:z=w1.heap.size)=>by have:=HB1.out.size;omega)
     case measure=>simp[intOf];omega
  ·obtain rfl:k=cnt:=by omega
   have HE:=Lib.hid (BM HRR.out)
   by_cases hz:nG sr=0
   ·have hpa:parseM bs=some acc:=by
     rw[Ud.out,←JW.out,Nat.sub_self,nU]
     dsimp only
     rw[if_pos hz]
    have KM:=Lib.hid (Gv wr zu.out (KI hpa).2)
    have HPB:=Lib.hid hpa
    rw[hz]at HE
    clear hz hpa
    go_wp2_with fail
    (with_reducible refine HE.out.mono ?_)
    rintro e _ ⟨rfl,rfl⟩
    go_wp2_with fail
    (with_reducible refine KM.out.mono ?_)
    rintro e w4 ⟨hb4,r,rfl,hiff⟩
    have iq:=Lib.hid hb4
    cases r with
    |true=>
     have HRI:=Lib.hid (hiff.1 rfl)
     clear hiff hb4
     go_wp2_with fail
     go_ret2
     exact .inl ⟨acc,_,HPB.out,HRI.out,rfl,g,D,w1.heap.size,ib,nb,zu.out.below iq.out (Nat.le_refl _),fun b hb=>by have:=KS.out b (.inl hb);have:=HB1.out.size;omega,fun b hb=>by have:=KS.out b (.inr hb);have:=HB1.out.size;omega,HB.out.trans (iq.out.mono HB.out.size)⟩
    |false=>
     have HRI:Hid (∀T,parseM bs=some T→¬lD T):=fun T hT hR=>by
      rw[HPB.out]at hT
      cases hT
      have:=hiff.2 hR
      cases this
     clear hiff hb4
     go_wp2_with fail
     go_ret2
     exact jh.no HRI.out (HB.out.trans (iq.out.mono HB.out.size))
   ·have d1:(nG sr !=0)=true:=by simpa using hz
    have HF:Hid (∀T,parseM bs=some T→¬lD T):=fun T hT=>by
     rw[Ud.out,←JW.out,Nat.sub_self,nU]at hT
     dsimp only at hT
     rw[if_neg hz]at hT
     cases hT
    clear hz
    go_wp2_with fail
    (with_reducible refine HE.out.mono ?_)
    rintro e _ ⟨rfl,rfl⟩
    go_wp2_with fail
    go_ret2
    exact jh.no HF.out HB.out
theorem jh.yes {T:aK} {w w':World} {e:Ending} (h:jh (gD T) w e w') (hT:fC T):∃p,e= .returned (.tuple #[ptr p, .int .i64 0])∧nX w p T w':=by
 rcases h with⟨U,p,h1,h2,h3,h4⟩|⟨h1,_⟩
 ·rw[yN (fC.SG hT.1)]at h1
  cases h1
  exact⟨p,h3,h4⟩
 ·exact absurd (Gh hT) (h1 T (yN (fC.SG hT.1)))
theorem nX.froz {W w w':World} {o:Mark} {p:Nat} {T:aK} (h:nX w p T w') (hM:Marks W o w):dN o 0 w' p T:=by
 obtain⟨g,D,mb,ib,nb,hA,hg,hD,hb⟩:=h
 have h0:∀b,w.heap.size≤b→o b=0:=fun b hb'=>Decidable.byContradiction fun h9=>by have:=(hM.new b h9).2;omega
 exact⟨g,D,mb,ib,nb,hA,fun b hb'=>h0 b (hg b hb'),fun b hb'=>h0 b (hD b hb')⟩
theorem nX.below {w w':World} {p:Nat} {T:aK} (h:nX w p T w'):Below w.heap.size w w':=by
 obtain⟨g,D,mb,ib,nb,hA,hg,hD,hb⟩:=h
 exact hb
theorem Marks.step1 {W w w':World} {o o':Mark} {m:Nat} (hM:Marks W o w) (hm:0<m) (hs:Step o (fun k=>k=m) w o' w'):Marks W o' w':=hM.step (I:=fun k=>k=m) (fun e=>by have e':0=m:=e;omega) hs
theorem aj.Yc {w w':World} {o o':Mark} {m n:Nat} {a:Option Addr} {vs:List Value} (h:aj (Free o w) w a n vs) (hm:0<m) (hs:Step o (fun k=>k=m) w o' w'):aj (Free o' w') w' a n vs:=h.free (I:=fun k=>k=m) (fun e=>by have e':0=m:=e;omega) hs
theorem dN.step1 {w w':World} {o o':Mark} {m j p:Nat} {T:aK} (h:dN o j w p T) (hm:0<m) (hj:j≠m) (hs:Step o (fun k=>k=m) w o' w'):dN o' j w' p T:=h.step (I:=fun k=>k=m) (fun e=>by have e':0=m:=e;omega) (fun e=>hj e) hs
section
variable {W w:World} {o:Mark} {p:Nat} {T:aK}
theorem nX.mark {w':World} (h:nX w p T w') (hM:Marks W o w) (j:Nat):∃o',Step o (fun k=>k=j) w o' w'∧dN o' j w' p T:=by
 obtain⟨g,D,mb,ib,nb,hA,hg,hD,hb⟩:=h
 obtain⟨o',hs,h1,h2⟩:=fZ hM j (fun b=>g b≠ .none) (fun b hb'=>⟨hg b hb',hA.low b hb'⟩) hb
 refine⟨o',hs,g,D,mb,ib,nb,hA,fun b hb'=>h1 b hb',fun b hb'=> ?_⟩
 rw[h2 b (by rw[hA.data b hb'];simp)]
 exact Decidable.byContradiction fun h9=>by have:=(hM.new b h9).2;have:=hD b hb';omega
end
theorem yY {S S':Nat→Prop} (a a':Option Addr) (n n' c c':Nat) (bs:List UInt8) (w:World) (h:aj S w a n (bs.map bv)) (h':aj S' w a' n' (bs.map bv)):
  Calls Tryz.prog 92 #[.slice a n c, .slice a' n' c'] w fun e w'=>e= .returned (.bool true)∧w=w':=by
 have hc1:=dD (c:=c) h
 have hc2:=dD (c:=c') h'
 clear h h'
 go_enter Tryz.func92,Tryz.ntmps92
 go_wp2_with fail
 go_ret
 exact⟨rfl,rfl⟩
structure ze (o:Mark) (j:Nat) (w:World) (x:Nat) (s:Rd):Prop where
 at_:∃D,aZ D w x s∧o x=j∧∀b,D b→o b=0
theorem ze.step {o o':Mark} {I:Nat→Prop} {j:Nat} {w w':World} {x:Nat} {s:Rd} (h:ze o j w x s) (hi:¬I 0) (hij:¬I j) (hs:Step o I w o' w'):ze o' j w' x s:=by
 obtain⟨D,h1,h2,h3⟩:=h.at_
 exact⟨D,h1.kept hs.keep.size (hs.block h1.lt (by rw[h2];exact hij)) (fun b hb hbw=>hs.block hbw (by rw[h3 b hb];exact hi)),(hs.old x h1.lt).trans h2,fun b hb=>(hs.old b (h1.low b hb)).trans (h3 b hb)⟩
theorem ze.grow {W:World} {o:Mark} {j:Nat} {w w':World} {x:Nat} {s:Rd} (h:ze o j w x s) (hM:Marks W o w) (hb:Below w.heap.size w w'):ze o j w' x s:=
 h.step (I:=fun _=>False) (fun e=>e) (fun e=>e) (Step.grow hM hb)
theorem w_ {W w w':World} {o:Mark} {j x:Nat} (hM:Marks W o w) (hx:o x=j) (hK:Keeps (fun b=>b=x) w w'):Step o (fun k=>k=j) w o w':=
 ⟨fun _ _=>rfl,fun b hb hn=>by have:=(hM.new b hn).2;omega,hK.mono fun z _ (hz:z=x)=>by rw[hz];exact hx⟩
section
variable {W w:World} {o:Mark} {i j s p x:Nat} {S:nQ} {T:aK} {sr:Rd}
theorem uq (h:ze o j w x sr) (hM:Marks W o w) {n:Int} {s':Rd} (he:bg sr 8=(n,s')):Calls Tryz.prog 87 #[ptr x] w fun e w'=>e= .returned (.int .u64 n)∧ze o j w' x s'∧Step o (fun k=>k=j) w o w':=by
 obtain⟨D,h1,h2,h3⟩:=h.at_
 refine(IC h1).mono ?_
 rintro e w' ⟨he',hR,hK⟩
 rw[he]at he' hR
 exact⟨he',⟨D,hR,h2,h3⟩,w_ hM h2 hK⟩
theorem Rt (h:ze o j w x sr) (hM:Marks W o w) {n:Int} {s':Rd} (he:bg sr 1=(n,s')):Calls Tryz.prog 169 #[ptr x] w fun e w'=>e= .returned (.int .i64 n)∧ze o j w' x s'∧Step o (fun k=>k=j) w o w':=by
 obtain⟨D,h1,h2,h3⟩:=h.at_
 refine(BL h1).mono ?_
 rintro e w' ⟨he',hR,hK⟩
 rw[he]at he' hR
 exact⟨he',⟨D,hR,h2,h3⟩,w_ hM h2 hK⟩
def SS (o:Mark) (j:Nat) (w:World) (x:Nat) (bs:List UInt8) (s':Rd) (e:Ending) (w':World):Prop:=
 ∃a c,e= .returned (.slice a bs.length c)∧nK bs.length c∧aj (fun b=>o b=0∧b<w'.heap.size) w' a bs.length (bs.map bv)∧ze o j w' x s'∧Step o (fun k=>k=j) w o w'
theorem Eo (h:ze o j w x sr) (hM:Marks W o w) {bs:List UInt8} {s':Rd} (he:aI sr=(bs,s')):Calls Tryz.prog 168 #[ptr x] w (SS o j w x bs s'):=by
 obtain⟨D,h1,h2,h3⟩:=h.at_
 refine(uo h1).mono ?_
 rintro e w' ⟨a,c,he',hc,hr,hR,hK⟩
 rw[he]at he' hc hr hR
 exact⟨a,c,he',hc,hr.mono fun b hb=>⟨Decidable.byContradiction fun h9=>by have:=(hM.new b h9).2;omega,hb.2⟩,⟨D,hR,h2,h3⟩,w_ hM h2 hK⟩
theorem Gx (h:ze o j w x sr) (hM:Marks W o w) (n:Int) (hn0:0≤n) (hn1:n≤9223372036854775807) {bs:List UInt8} {s':Rd} (he:iV sr n=(bs,s')):Calls Tryz.prog 90 #[ptr x, .int .i64 n] w (SS o j w x bs s'):=by
 obtain⟨D,h1,h2,h3⟩:=h.at_
 refine(Gj h1 n hn0 hn1).mono ?_
 rintro e w' ⟨a,c,he',hc,hr,hR,hK⟩
 rw[he]at he' hc hr hR
 exact⟨a,c,he',hc,hr.mono fun b hb=>⟨Decidable.byContradiction fun h9=>by have:=(hM.new b h9).2;omega,hb.2⟩,⟨D,hR,h2,h3⟩,w_ hM h2 hK⟩
theorem BO (h:ze o j w x sr):Calls Tryz.prog 89 #[ptr x] w fun e w'=>e= .returned (.int .i64 (kT sr:Int))∧w=w':=by
 obtain⟨D,h1,h2,h3⟩:=h.at_
 exact IE h1
theorem U2 (h:ze o j w x sr):Calls Tryz.prog 166 #[ptr x] w fun e w'=>e= .returned (.int .i64 (nG sr))∧w=w':=by
 obtain⟨D,h1,h2,h3⟩:=h.at_
 exact BM h1
theorem OT {Q:Nat→Prop} (hM:Marks W o w) (j:Nat) (a:Option Addr) (n c:Nat) (bs:List UInt8) (hm:n≤100000000) (hr:aj Q w a n (bs.map bv)):Calls Tryz.prog 86 #[.slice a n c] w fun e w'=>∃x o',e= .returned (ptr x)∧ze o' j w' x (bs,0)∧Step o (fun k=>k=j) w o' w':=by
 refine(oq a n c bs w hm hr).mono ?_
 rintro e w' ⟨x,rfl,hx,hR,hb⟩
 obtain⟨o',hs,h1,h2⟩:=fZ hM j (fun b=>b=x) (w':=w') (fun b hb'=>by subst hb';exact⟨hx,hR.lt⟩) hb
 refine⟨x,o',rfl,⟨_,hR,h1 x rfl,fun b hb'=> ?_⟩,hs⟩
 rw[h2 b (fun e=>by subst e;omega)]
 exact Decidable.byContradiction fun h9=>by have:=(hM.new b h9).2;omega
end
section
variable {W w:World} {o:Mark} {i j s p:Nat} {S:nQ} {T:aK}
open Classical in
theorem OU {w9:World} {v v8:Value} {vals vsx:List Value} {x:jJ} {la:Option Addr} {lc:Nat} (hM:Marks W o w) (hi:i≠0) (hos:o s=i) (hsw:s<w.heap.size) (T_:∀b,v.ownBlock=some b→o b=i∧b≠s∧b<w.heap.size)
  (hO:dh o w vals S.l) (hx:oM o w vsx x) (hlc:S.last.length≤lc) (hla:aj (fun b=>o b=0∧b<w.heap.size) w la S.last.length (S.last.map bv)) (hh:w9.heap[s]? =some (.cells #[v8, .int .i64 S.next, .slice la S.last.length lc] 101 (0,0))) (hown:w9.ownsRow 0 105 3 v8 (S.l.length+1) (vals++vsx))
  (hat:v8.ownBlock=v.ownBlock∨∃b,v8.ownBlock=some b∧w.heap.size≤b) (hK:Keeps (fun b=>b=s∨v.ownBlock=some b) w w9):
  ∃o',Step o (fun k=>k=i) w o' w9∧dR o' i w9 s ⟨S.l++[x],S.next,S.last⟩:=by
 obtain⟨o',ho⟩:∃o':Mark,∀b,o' b=if v8.ownBlock=some b∧w.heap.size≤b then i else o b:=⟨_,fun _=>rfl⟩
 have M5:∀b,v8.ownBlock=some b→b<w9.heap.size:=dY hown
 have hst:Step o (fun k=>k=i) w o' w9:=by
  refine⟨fun b hb=>by rw[ho,if_neg (fun h=>by omega)],fun b hb hn=> ?_,hK.mono fun b hb h=> ?_⟩
  ·by_cases h:v8.ownBlock=some b∧w.heap.size≤b
   ·rw[ho,if_pos h];exact⟨rfl,M5 b h.1⟩
   ·rw[ho,if_neg h]at hn;have:=(hM.new b hn).2;omega
  ·rcases h with h|h
   ·rw[h];exact hos
   ·exact(T_ b h).1
 have hi0:¬(fun k=>k=i) 0:=fun e=>hi e.symm
 refine⟨o',hst,⟨v8,la,lc,vals++vsx,hh,(hst.old s hsw).trans hos,Nat.lt_of_lt_of_le hsw hK.size,?_,fun b hb=> ?_,?_,hlc,?_⟩⟩
 ·rw[List.length_append];exact hown
 ·rcases hat with h1|⟨b',h1,h2⟩
  ·rw[h1]at hb
   obtain⟨k1,k2,k3⟩:=T_ b hb
   exact⟨(hst.old b k3).trans k1,k2,Nat.lt_of_lt_of_le k3 hK.size⟩
  ·rw[h1]at hb
   cases hb
   exact⟨by rw[ho,if_pos ⟨h1,h2⟩],by omega,M5 _ h1⟩
 ·exact dh.append (hO.step hi0 hst) ⟨_,[],by simp,hx.step hi0 hst,rfl⟩
 ·exact hla.move hst.keep.size fun b hb hbw=>⟨⟨(hst.old b hb.2).trans hb.1,Nat.lt_of_lt_of_le hb.2 hst.keep.size⟩,hst.block hb.2 (by rw[hb.1];exact hi0)⟩
set_option maxRecDepth 100000 in
set_option maxHeartbeats 16000000 in
theorem Gy (hS:dR o i w s S) (hM:Marks W o w) (hi:i≠0) (hj:j≠0) (hij:i≠j) (x:jJ) (rest:List UInt8) (xr:Nat) (hR:ze o j w xr (jP x++rest,0)) (hO:fC x.t) (hc:bS x.t=x.t) (hid:1≤x.id∧x.id<S.next) (hnx:S.next≤1000000000) (behind:Int) (hbh:0≤behind∧behind<x.id) (hh:x.hash.length=32) (wJ:S.l.length<8) (hrs:rest.length≤100000000):
  Calls Tryz.prog 170 #[ptr s,ptr xr, .int .i64 behind] w fun e w'=>e= .returned (.bool true)∧∃o',Step o (fun k=>k=i∨k=j) w o' w'∧dR o' i w' s ⟨S.l++[x],S.next,S.last⟩∧ze o' j w' xr (rest,0):=by
 have hsl:=yc hO.1
 obtain⟨sv,hsv⟩:∃sv,sv=gD x.t:=⟨_,rfl⟩
 have hs2:2≤sv.length:=by rw[hsv];unfold gD;rw[List.length_append,bP];omega
 have e8:(256:Int)^8=18446744073709551616:=rfl
 rw[←hsv]at hsl
 have n1:bg (jP x++rest,0) 8=(x.id,(nY x.hash++(fF sv.length 8++(sv++rest)),0)):=by
  unfold jP
  rw[←hsv,List.append_assoc,List.append_assoc,List.append_assoc]
  exact fJ 8 x.id _ (by omega) (by omega)
 have n2:aI (nY x.hash++(fF sv.length 8++(sv++rest)),0)=(x.hash,(fF sv.length 8++(sv++rest),0)):=ni _ _ (by omega)
 have n3:bg (fF (sv.length:Int) 8++(sv++rest),0) 8=((sv.length:Int),(sv++rest,0)):=fJ 8 _ _ (by omega) (by omega)
 have n4:iV (sv++rest,0) (sv.length:Int)=(sv,(rest,0)):=qX _ _ _ rfl
 have n5:kT (sv++rest,0)=sv.length+rest.length:=by unfold kT;rw[if_neg (by simp),List.length_append]
 have Dz:=Lib.hid hsv
 have HS:=Lib.hid hS
 have HM:=Lib.hid hM
 have AA:=Lib.hid (uq hR hM n1)
 have fu:=Lib.hid hO
 have HCM:=Lib.hid hc
 have Cm:=Lib.hid n2
 have Ru:=Lib.hid n3
 have Jq:=Lib.hid n4
 have Yd:=Lib.hid n5
 have HHH:=Lib.hid hh
 have hI:∀o0:Nat,o0=0→¬(fun k=>k=j) o0:=fun o0 h0 e=>hj (by rw[←e];exact h0)
 have hj0:¬(fun k=>k=j) 0:=fun e=>hj e.symm
 have hji:¬(fun k=>k=j) i:=fun e=>hij e
 have BN:=Lib.hid hj0
 have Ye:=Lib.hid hji
 obtain⟨id,hide⟩:∃id,id=x.id:=⟨_,rfl⟩
 obtain⟨nx,u_⟩:∃nx,nx=S.next:=⟨_,rfl⟩
 rw[←hide]at AA hid hbh
 rw[←u_]at hid hnx
 have HIDE:=Lib.hid hide
 have Rv:=Lib.hid u_
 obtain⟨L,hL⟩:∃L,L=sv.length:=⟨_,rfl⟩
 rw[←hL]at hsl hs2 Ru Jq Yd Cm AA
 have rU:=Lib.hid hL
 clear hS hM hR hO hc hh n1 n2 n3 n4 n5 hsv hI hj0 hji hide u_ hL
 go_enter Tryz.func170,Tryz.ntmps170
 go_wp2_with fail
 (with_reducible refine AA.out.mono ?_)
 rintro e w1 ⟨rfl,kP,hs1⟩
 have jB:=Lib.hid (HM.out.step BN.out hs1)
 have mU:=Lib.hid (HS.out.step BN.out Ye.out hs1)
 have l8:=Lib.hid hs1
 have qA:=Lib.hid (Eo kP jB.out Cm.out)
 clear kP hs1 AA HS
 go_wp2_with fail
 (with_reducible refine qA.out.mono ?_)
 rintro e w2 ⟨a2,c2,rfl,hc2,hr2,hR2,Rw⟩
 have vO:=Lib.hid (jB.out.step BN.out Rw)
 have HS2:=Lib.hid (mU.out.step BN.out Ye.out Rw)
 have Ep:=Lib.hid (l8.out.trans Rw)
 have SV:Hid (aj (Free o w2) w2 a2 x.hash.length (x.hash.map bv)):=hr2
 have Yf:=Lib.hid hc2
 have J2:=Lib.hid (uq hR2 vO.out Ru.out)
 rw[HHH.out]
 clear hc2 hr2 hR2 Rw qA mU jB l8
 go_wp2_with fail
 (with_reducible refine J2.out.mono ?_)
 rintro e w3 ⟨rfl,EH,hs3⟩
 have xO:=Lib.hid (vO.out.step BN.out hs3)
 have wG:=Lib.hid (HS2.out.step BN.out Ye.out hs3)
 have Er:=Lib.hid (Ep.out.trans hs3)
 have Es:=Lib.hid (SV.out.free BN.out hs3)
 have wS:=Lib.hid (BO EH)
 have Rc:=Lib.hid (Gx EH xO.out (L:Int) (by omega) (by omega) Jq.out)
 rw[Yd.out]at wS
 obtain⟨v,la,lc,vals,h1,h2,h3,h4,h5,h6,h7,h8⟩:=wG.out.at_
 have q1:w3.cell? ⟨s,1,none⟩=some (.int .i64 nx):=by rw[Rv.out];simp[World.cell?,h1]
 have z1:((L+rest.length:Nat):Int)≤9223372036854775807:=by omega
 have z2:IntKind.u64.wrap ((L+rest.length:Nat):Int)=((L+rest.length:Nat):Int):=by simp[IntKind.wrap,IntKind.bits,IntKind.signed];omega
 have z3:(((L+rest.length:Nat):Int)==0)=false:=beq_eq_false_iff_ne.2 (by omega)
 have z4:decide (((L+rest.length:Nat):Int)<(L:Int))=false:=decide_eq_false (by omega)
 have z5:IntKind.u64.wrap nx=nx:=by simp[IntKind.wrap,IntKind.bits,IntKind.signed];omega
 have z6:decide (nx≤id)=false:=decide_eq_false (by omega)
 have z7:IntKind.i64.wrap id=id:=IntWalk.i64_in _ (by omega)
 have z8:decide (id≤behind)=false:=decide_eq_false (by omega)
 have z9:IntKind.i64.wrap (L:Int)=(L:Int):=IntWalk.i64_in _ (by omega)
 have zA:((32:Int)==32)=true:=rfl
 obtain⟨R,hR⟩:∃R,R=L+rest.length:=⟨_,rfl⟩
 rw[←hR]at wS z1 z2 z3 z4
 have zB:L≤R:=by omega
 have zC:decide (R<L)=false:=decide_eq_false (by omega)
 clear h1 h2 h3 h4 h5 h6 h7 h8 hR EH hs3 J2 HS2 vO Ep SV
 go_wp2_with fail
 (with_reducible refine wS.out.mono ?_)
 rintro e _ ⟨rfl,rfl⟩
 go_wp2_with fail
 (with_reducible refine wS.out.mono ?_)
 rintro e _ ⟨rfl,rfl⟩
 go_wp2_with fail
 (with_reducible refine Rc.out.mono ?_)
 rintro e w4 ⟨a4,c4,rfl,hc4,hr4,zq,hs4⟩
 rw[←rU.out]at hr4⊢
 have lT:=Lib.hid (xO.out.step BN.out hs4)
 have iH:=Lib.hid (wG.out.step BN.out Ye.out hs4)
 have tX:=Lib.hid (Er.out.trans hs4)
 have wD:=Lib.hid (Es.out.free BN.out hs4)
 have iq:Hid (aj (Free o w4) w4 a4 L (sv.map bv)):=hr4
 have HR4:=Lib.hid zq
 have K3:=Lib.hid (AU a4 L c4 sv w4 (by omega) hr4)
 clear hc4 hr4 zq hs4 Rc wS wG xO Er Es q1
 go_wp2_with fail
 (with_reducible refine K3.out.mono ?_)
 intro e w5 hld
 obtain⟨p,rfl,hnt⟩:=jh.yes (T:=x.t) (by rw[←Dz.out];exact hld) fu.out
 have hb5:=hnt.below
 have EX:=Lib.hid (hnt.froz lT.out)
 have wT:=Lib.hid (lT.out.grow hb5)
 have fQ:=Lib.hid (iH.out.grow lT.out hb5)
 have Gz:=Lib.hid (tX.out.trans (Step.grow lT.out hb5))
 have vT:=Lib.hid (wD.out.free (I:=fun _=>False) (fun e=>e) (Step.grow lT.out hb5))
 have jI:=Lib.hid (iq.out.free (I:=fun _=>False) (fun e=>e) (Step.grow lT.out hb5))
 have oO:=Lib.hid (HR4.out.grow lT.out hb5)
 have HC:=Lib.hid (lI EX.out wT.out fu.out.1)
 rw[HCM.out]at HC
 clear hld hnt hb5 K3 lT iH tX wD iq HR4
 go_wp2_with fail
 (with_reducible refine HC.out.mono ?_)
 rintro e w6 ⟨q2,rfl,Fv,hb6⟩
 have GA:=Lib.hid (tQ Fv fu.out.1)
 rw[←Dz.out]at GA
 have GD:=Lib.hid hb6
 clear Fv hb6 HC
 go_wp2_with fail
 (with_reducible refine GA.out.mono ?_)
 rintro e w7 ⟨a7,n7,c7,rfl,X4,SF,Cn⟩
 have sI:Below w5.heap.size w5 w7:=GD.out.trans (Cn.mono GD.out.size)
 have RX:=Lib.hid (EX.out.grow sI)
 have Ae:=Lib.hid (wT.out.grow sI)
 have Uw:=Lib.hid (fQ.out.grow wT.out sI)
 have KT:=Lib.hid (Gz.out.trans (Step.grow wT.out sI))
 have IK:=Lib.hid (vT.out.free (I:=fun _=>False) (fun e=>e) (Step.grow wT.out sI))
 have Vy:=Lib.hid (oO.out.grow wT.out sI)
 have YX:=Lib.hid (yY a7 a4 n7 L c7 c4 sv w7 SF (jI.out.free (I:=fun _=>False) (fun e=>e) (Step.grow wT.out sI)))
 clear X4 SF Cn sI GA GD EX wT fQ Gz vT oO jI
 go_wp2_with fail
 (with_reducible refine YX.out.mono ?_)
 rintro e _ ⟨rfl,rfl⟩
 obtain⟨v,la,lc,vals,h1,h2,h3,h4,h5,h6,h7,h8⟩:=Uw.out.at_
 obtain⟨a,c,rfl,hcap⟩:=bF h4
 obtain⟨n,hn⟩:∃n,n=S.l.length:=⟨_,rfl⟩
 have q0:w7.cell? ⟨s,0,none⟩=some (.slice a n c):=by rw[hn];simp[World.cell?,h1]
 obtain⟨i3,hi3⟩:∃i,Tryz.prog.info? 105=some i∧i.zero=some (.agg #[.int .i64 0, .slice none 0 0, .pointer none])∧i.size=3∧i.bytes=40:=info_parts (by kernel_rfl)
 have HI3:=Lib.hid hi3
 have HOW7:Hid (w7.ownsRow 0 105 3 (.slice a n c) n vals):=by rw[hn];exact Lib.hid h4
 have Vn:Hid (∀b,(Value.slice a n c).ownBlock=some b→o b=i∧b≠s∧b<w7.heap.size):=by
  rw[hn];exact Lib.hid h5
 have Nf:Hid (w7.heap[s]? =some (.cells #[.slice a n c, .int .i64 S.next, .slice la S.last.length lc] 101 (0,0))):=by
  rw[hn];exact Lib.hid h1
 have IL:=Lib.hid (And.intro h2 (And.intro h6 (And.intro h7 h8)))
 have nD:n<8:=by omega
 have Gu:=Lib.hid hn
 clear h1 h2 h4 h5 h6 h7 h8 hcap hn hi3 wJ
 go_wp2_with (at_builtin;refine mW (by rfl) _ _ 99 (by rfl) 0 105 i3 _ 3 40 Tryz.underlying99 HI3.out.1 HI3.out.2.1 HI3.out.2.2.1 HI3.out.2.2.2 rfl (by omega) (.slice a n c) n vals (by rfl) (cK HOW7.out fun b hb hbw=>(wall w7 _).block b hbw) (some ⟨w7.heap.size,0,none⟩) 1 1 [.int .i64 id, .slice a2 32 c2,ptr p] (by rfl) (rE (w:=w7) [.int .i64 id, .slice a2 32 c2,ptr p] 105 (by simp[maxLen])) (by simp[Value.oneCell']) (by unfold maxLen;omega) (by omega) (Nat.zero_le _) ?_;intro A8 c8 w8 DC Sb M9;have uQ:w8.heap[s]? =some (.cells #[.slice a n c, .int .i64 S.next, .slice la S.last.length lc] 101 (0,0)):=((Sb.block s (Nat.lt_of_lt_of_le h3 (wall w7 _).size) (fun e=>(Vn.out s e.symm).2.1 rfl)).trans ((wall w7 _).block s h3)).trans Nf.out;have r0:w8.cell? ⟨s,0,none⟩=some (.slice a n c):=bY uQ 0;have rf:w8.frozen? ⟨s,0,none⟩=false:=(by simp only[World.frozen?,uQ];rfl);have M_:=Lib.hid DC;have HG8:=Lib.hid Sb;have QB:=Lib.hid M9;have Mv:=Lib.hid uQ;clear DC Sb M9 uQ)
 go_ret
 have Ca:=wall w7 (.cells #[.int .i64 id, .slice a2 32 c2,ptr p] 105)
 have Na:(w8.setCell ⟨s,0,none⟩ (.slice A8 (n+1) c8)).heap[s]? =some (.cells #[.slice A8 (n+1) c8, .int .i64 S.next, .slice la S.last.length lc] 101 (0,0)):=aX Mv.out
 have hne:∀b,(Value.slice A8 (n+1) c8).ownBlock=some b→b≠s:=fun b hb e=>by
  rcases QB.out with h9|h9
  ·rw[h9]at hb;exact(Vn.out b hb).2.1 e
  ·rw[h9]at hb
   simp only[Option.some.injEq,World.size_alloc]at hb
   omega
 have Vm:oM o w7 [.int .i64 id, .slice a2 32 c2,ptr p] x:=⟨a2,c2,p,by rw[HIDE.out,HHH.out],Yf.out.1,IK.out,RX.out,fu.out.1⟩
 have k1:Keeps (fun b=>b=s∨(Value.slice a n c).ownBlock=some b) w7 (w7.alloc (.cells #[.int .i64 id, .slice a2 32 c2,ptr p] 105)):=(Keeps.below Ca).mono fun z hz hz'=>by omega
 have k2:Keeps (fun b=>b=s∨(Value.slice a n c).ownBlock=some b) (w7.alloc (.cells #[.int .i64 id, .slice a2 32 c2,ptr p] 105)) w8:=(Keeps.grown HG8.out).mono fun z _ hz=>Or.inr hz
 have k3:Keeps (fun b=>b=s∨(Value.slice a n c).ownBlock=some b) w8 (w8.setCell ⟨s,0,none⟩ (.slice A8 (n+1) c8)):=(Keeps.lN w8 ⟨s,0,none⟩ _).mono fun z _ hz=>Or.inl hz
 obtain⟨o9,Yg,hsn9⟩:=OU (w9:=w8.setCell ⟨s,0,none⟩ (.slice A8 (n+1) c8)) (v:= .slice a n c) (v8:= .slice A8 (n+1) c8) (S:=S) Ae.out hi IL.out.1 h3 Vn.out IL.out.2.1 Vm IL.out.2.2.1 IL.out.2.2.2 Na (by
   rw[←Gu.out]
   exact cK M_.out fun b hb hbw=>bE _ _ _ _ (hne b hb)) (by
   rcases QB.out with h9|h9
   ·exact .inl h9
   ·exact .inr ⟨_,h9,by rw[World.size_alloc];omega⟩) ((k1.trans k2 fun z _ hz=>hz).trans k3 fun z _ hz=>hz)
 refine⟨rfl,o9,(KT.out.mono fun k hk=> .inr hk).trans (Yg.mono fun k hk=> .inl hk),hsn9,Vy.out.step (fun e=>hi e.symm) (fun e=>hij e.symm) Yg⟩
end
end Go.Proofs.YtmabllemjkcobaaGreatDoor
