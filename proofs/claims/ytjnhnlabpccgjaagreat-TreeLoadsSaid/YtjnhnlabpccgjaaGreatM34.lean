/- permafrost/permafrostbook.Same[byte]: are two slices the same? permafrostbook.Intact of bytes. A byte turned; rows opened. -/
import Derived.Test.YtjnhnlabpccgjaaGreatM03
import Derived.BigQuiet
import Derived.Deep.QuietTactic
import Derived.Test.YtjnhnlabpccgjaaGreatM33
import Derived.Test.YtjnhnlabpccgjaaGreatM20
import Derived.Test.YtjnhnlabpccgjaaGreatM10
namespace Go.Proofs.YtjnhnlabpccgjaaGreat
open Go.ChangeShapes Go.WideShapes Go.ChangeAt Go.RowKit
set_option linter.unusedVariables false
def xL (w:World) (r:Bool) (e:Ending) (w':World):Prop:=e= .returned (.bool r)∧∃q,w'=w.drewN q
theorem He {xs ys:List UInt8} {k:Nat} (hk:k<xs.length) (hk':k<ys.length) (h:xs.take k=ys.take k) (he:xs[k]=ys[k]):xs.take (k+1)=ys.take (k+1):=by
 rw[List.take_succ_eq_append_getElem hk,List.take_succ_eq_append_getElem hk',h,he]
set_option maxHeartbeats 1000000 in
theorem KD {S S':Nat→Prop} (a b:Option Addr) (ca cb:Nat) (xs ys:List UInt8) (w:World) (ha:aj S w a xs.length (xs.map bv)) (hb:aj S' w b ys.length (ys.map bv)):
  Calls Tryz.prog 58 #[.slice a xs.length ca, .slice b ys.length cb] w (xL w (decide (xs=ys))):=by
 have ha1:=ha.small
 have hb1:=hb.small
 unfold maxLen at ha1 hb1
 by_cases hl:xs.length=ys.length
 ·have e1:((xs.length:Int) !=(ys.length:Int))=false:=by simp[hl]
  obtain⟨n,hn⟩:∃n,n=xs.length:=⟨_,rfl⟩
  rw[←hn]at hl ha ha1 e1⊢
  rw[←hl]at hb hb1 e1⊢
  have HA:=Lib.hid ha
  have HB:=Lib.hid hb
  have HL:=Lib.hid hl
  have HN:=Lib.hid hn
  have e2:((n:Int) !=(n:Int))=false:=by simp
  clear ha hb hl hn e1 hb1
  go_enter Tryz.func58,Tryz.ntmps58
  go_wp2
  go_loopw [5] (fun i wr=>∃k q:Nat,k≤n∧i= .int .i64 k∧wr=w.drewN q∧Hid (xs.take k=ys.take k)) (fun i _=>n-(intOf i).toNat)
  case atStart=>exact⟨0,0,by omega,rfl,rfl,show _=_ by simp⟩
  case round=>
   obtain⟨k,q,hk,rfl,rfl,hT⟩:=hrel
   by_cases hlt:k<n
   ·obtain⟨b1,o1,rfl,_,_,hc1⟩:=HA.out.at_ (by omega)
    obtain⟨b2,o2,rfl,_,_,hc2⟩:=HB.out.at_ (by omega)
    have hx:k<xs.length:=by rw[←HN.out];exact hlt
    have hy:k<ys.length:=by rw[←HL.out];exact hlt
    have g1:w.cell? ⟨b1,o1+k,none⟩=some (bv xs[k]):=by rw[hc1 k hlt,List.getElem?_map,List.getElem?_eq_getElem hx];rfl
    have g2:w.cell? ⟨b2,o2+k,none⟩=some (bv ys[k]):=by rw[hc2 k hlt,List.getElem?_map,List.getElem?_eq_getElem hy];rfl
    have i0:(0:Int)≤(k:Int):=by omega
    have i1:(k:Int)<(n:Int):=by omega
    clear hc1 hc2
    have HX:=fun h=>He hx hy hT.out h
    by_cases heq:xs[k]=ys[k]
    ·have N7:=Lib.hid (HX heq)
     have e3:((xs[k].toNat:Int) !=(ys[k].toNat:Int))=false:=by simp[heq]
     clear HX
     generalize xs[k]=x at g1 e3 heq
     generalize ys[k]=y at g2 e3 heq
     have HEQ:=Lib.hid heq
     clear heq
     go_wp2
     go_quiet (fail)
     go_wp2
     go_roundw
     case rel=>exact⟨k+1,_,by omega,by go_num,rfl,N7⟩
     case measure=>simp[intOf];omega
    ·have hne:xs≠ys:=fun h=>heq (by subst h;rfl)
     have e3:((xs[k].toNat:Int) !=(ys[k].toNat:Int))=true:=by simp;intro h;exact heq (UInt8.toNat_inj.1 (by omega))
     have iE:=Lib.hid hne
     clear HX hne
     generalize xs[k]=x at g1 e3 heq
     generalize ys[k]=y at g2 e3 heq
     have HEQ:=Lib.hid heq
     clear heq
     go_wp2
     go_quiet (fail)
     go_wp2
     go_ret
     exact⟨fC (by simp[iE.out]),_,World.drewN_drewN _ _ _⟩
   ·obtain rfl:k=n:=by omega
    have he:xs=ys:=by
     have:=hT.out
     rw[List.take_of_length_le (by rw[←HN.out];omega),List.take_of_length_le (by rw[←HL.out];omega)]at this
     exact this
    have HE:=Lib.hid he
    clear he
    go_wp2
    go_ret
    exact⟨fC (by simp[HE.out]),_,rfl⟩
 ·have e1:((xs.length:Int) !=(ys.length:Int))=true:=by simp;omega
  have hne:xs≠ys:=fun h=>hl (by rw[h])
  have iE:=Lib.hid hne
  clear hne hl ha hb
  go_enter Tryz.func58,Tryz.ntmps58
  go_wp2
  go_ret
  exact⟨fC (by simp[iE.out]),0,rfl⟩
theorem KE {S S':Nat→Prop} (a b:Option Addr) (n ca cb:Nat) (xs:List UInt8) (w:World) (ha:aj S w a n (xs.map bv)) (hb:aj S' w b n (xs.map bv)):
  Calls Tryz.prog 58 #[.slice a n ca, .slice b n cb] w (xL w true):=by
 have hl:xs.length=n:=by have:=ha.length;simpa using this
 subst hl
 have:=KD a b ca cb xs xs w ha hb
 rwa [show decide (xs=xs)=true by simp]at this
set_option maxHeartbeats 1000000 in
theorem Hf {S S':Nat→Prop} (fa a:Option Addr) (n fc cap:Nat) (bs:List UInt8) (m:UInt8) (mi:Int) (YJ:mi=m.toNat) (w:World) (hf:aj S w fa (n+80) ((pV bs m).map bv)) (hfc:n+80≤fc) (h:aj S' w a n (bs.map bv)) (hlen:n≤140737488355328):
  Calls Tryz.prog 18 #[.slice fa (n+80) fc, .slice a n cap, .int .u8 mi] w (xL w true):=by
 subst YJ
 have hbl:bs.length=n:=by have:=h.length;simpa using this
 have e3:IntKind.i64.wrap ((n:Int)+80)=(n:Int)+80:=IntWalk.i64_in _ (by omega)
 have hft:=hf.take n
 rw[Nat.min_eq_right (by omega),←List.map_take,show(pV bs m).take n=bs by unfold pV;rw[List.take_append_of_le_length (by omega),List.take_of_length_le (by omega)]]at hft
 have hsm:=KE fa a n fc cap bs w hft h
 have e1:((n:Int)+80 !=(n:Int)+80)=false:=by simp
 have HF:=Lib.hid hf
 have Hy:=Lib.hid hbl
 have Ma:=Lib.hid hsm
 have hnf:n≤fc:=by omega
 clear hf h hft hsm hbl
 go_enter Tryz.func18,Tryz.ntmps18
 go_wp2_with fail
 (with_reducible refine Ma.out.mono ?_)
 rintro e w' ⟨rfl,q,rfl⟩
 go_wp2_with fail
 go_loopw [7] (fun i wr=>∃k:Nat,i= .int .i64 ((n:Int)+k)∧k≤80∧wr=w.drewN q) (fun i _=>(n+80)-(intOf i).toNat)
 case atStart=>exact⟨0,by simp,by omega,rfl⟩
 case round=>
  obtain⟨k,rfl,hk,rfl⟩:=hrel
  by_cases hlt:k<80
  ·have i1:(n:Int)+k<(n:Int)+80:=by omega
   have i0':(0:Int)≤(n:Int)+k:=by omega
   have t0:((n:Int)+k).toNat=n+k:=by omega
   obtain⟨b,off,rfl,_,_,hc⟩:=HF.out.at_ (by omega)
   have hcell:w.cell? ⟨b,off+(n+k),none⟩=some (.int .u8 m.toNat):=by
    rw[hc (n+k) (by omega),List.getElem?_map]
    unfold pV
    rw[List.getElem?_append_right (by rw[Hy.out];omega),List.getElem?_replicate,if_pos (by rw[Hy.out];omega)]
    rfl
   have hne:((m.toNat:Int) !=(m.toNat:Int))=false:=by simp
   clear hc
   go_wp2
   go_roundw
   case rel=>exact⟨k+1,by go_num,by omega,trivial⟩
   case measure=>simp[intOf];omega
  ·obtain rfl:k=80:=by omega
   have i1:¬(n:Int)+(80:Nat)<(n:Int)+80:=by omega
   go_wp2
   go_ret
   exact⟨rfl,q,rfl⟩
set_option linter.unusedSimpArgs false
theorem YL (x y:Int):∃z:UInt8,bits .xor .u8 x y=(z.toNat:Int):=by
 refine⟨UInt8.ofNat (bits .xor .u8 x y).toNat,?_⟩
 have h:0≤bits .xor .u8 x y∧bits .xor .u8 x y<256:=by
  unfold bits
  simp only[IntKind.wrap,IntKind.bits,IntKind.signed]
  simp
  omega
 rw[UInt8.toNat_ofNat']
 omega
theorem YM {B:Nat} {a w:World} (h:Below B a w) (n:Nat):Below B a (w.drewN n):=h.trans ⟨rfl,rfl,rfl,Nat.le_refl _,fun _ _=>rfl⟩
theorem NQ {w:World} {base:Nat} {e:TypeId} {a:Option Addr} {c n:Nat} {xs:List Value} (h:w.ownsRow base e 1 (.slice a n c) n xs) (h0:0<n):∃g cur,a=some ⟨g,0,none⟩∧base≤g∧g<w.heap.size∧w.heap[g]? =some (.cells cur e (0,0))∧aj (fun x=>x=g) w a n xs∧n≤c:=by
 have hr:=(aj.jI h).2
 rcases h.2 with⟨h1,_⟩|⟨g,cap,cur,h1,hg,hcur,hcap,_⟩
 ·cases h1;omega
 ·cases h1
  refine⟨g,cur,rfl,hg,(Array.getElem?_eq_some_iff.1 hcur).1,hcur,⟨hr.length,hr.small,fun h0=> ?_⟩,hcap⟩
  obtain⟨b,off,e1,hS,hb,hc⟩:=hr.at_ h0
  cases e1
  exact⟨_,_,rfl,rfl,hb,hc⟩
theorem KF {w:World} {g n:Nat} {bs:List UInt8} (h:w.heap[g]? =some (.cells (bs.map bv).toArray 5 (0,0))) (hn:bs.length=n) (hm:n≤maxLen):aj (fun x=>x=g) w (some ⟨g,0,none⟩) n (bs.map bv):=
 ⟨by simpa using hn,hm,fun _=>⟨g,0,rfl,rfl,(Array.getElem?_eq_some_iff.1 h).1,fun i hi=>by rw[Nat.zero_add];simp only[World.cell?,h];simp⟩⟩
def Qk (w:World) (v:Value):Prop:=∃a n c y,v= .slice a n c∧n≤c∧n≤85000000∧aj (fun b=>b<w.heap.size) w a n ((y:List UInt8).map bv)
end Go.Proofs.YtjnhnlabpccgjaaGreat
