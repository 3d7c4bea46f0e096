/- The -/
import Derived.Test.YtjnhnlabpccgjaaGreatDoorM24
import Derived.WalkLawsBesides
import Derived.Deep.CutBlock
import Derived.Deep.DeepCutAuto
import Derived.Test.YtjnhnlabpccgjaaGreatDoorM18
set_option maxRecDepth 100000
set_option maxHeartbeats 64000000
set_option linter.all false
namespace Go.Proofs.YtjnhnlabpccgjaaGreatDoor
open Go.ChangeShapes Go.WideShapes Go.ChangeAt Go.RowKit
def MP(E:List jT)(d:Int)(nm:Nm)(w:World)(v:Value)(wx:World):Prop:=
 ∃k:Nat,k≤E.length∧v= .int .i64 k∧rO E d nm=(fun id=>E.take k++(d,nm,id)::E.drop k)∧w=wx
theorem MP.of{E:List jT}{d:Int}{nm:Nm}{w:World}{k:Nat}(hk:k≤E.length)(ha:(E.take k).all (mh d nm)=true)(hx:∀x,E[k]? =some x→mh d nm x=false):MP E d nm w (.int .i64 k) w:=by
 refine⟨k,hk,rfl,?_,rfl⟩;obtain⟨h1,h2⟩:=xU ha hx hk;funext id;unfold rO;rw[h1,h2]
theorem wY{α:Type}{p:α→Bool}{l:List α}{k:Nat}{x:α}(h:(l.take k).all p=true)(hx:l[k]? =some x)(hp:p x=true):(l.take (k+1)).all p=true:=by
 obtain⟨hk,e⟩:=aac.1 hx;rw[aae hk,List.all_append,h,e];simp[hp]
theorem sG(e:jT):∀u∈fH e,u.oneCell'=true:=by
 intro u hu;simp only[fH,aan,abh,or_false]at hu;rcases hu with rfl|rfl|rfl<;>rfl
theorem wH{w u:World}{r:Nat}{E:List jT}{d id:Int}{nm:Nm}{k m n c:Nat}{A:Option Addr}{ys:List Value}(hadd:rO E d nm=fun id=>E.take k++(d,nm,id)::E.drop k)(hl:E.length=n)(hk:k≤n)(hB:Below w.heap.size w u)(hmk:m=k)(hys:ys=(E.take k).flatMap fH)
  (hown:u.ownsRow w.heap.size 146 3 (.slice A (m+1+(n-k)) c) (m+1+(n-k)) ((ys++fH (d,nm,id))++(E.drop k).flatMap fH))(hm:(m+1+(n-k))*3≤maxLen):
  DU w r (rO E d nm id) (.returned (.tuple #[])) (u.setCell ⟨r,2,none⟩ (.slice A (k+1+(n-k)) c)):=by
 subst hmk hys;have hlen:(rO E d nm id).length=m+1+(n-m):=by rw[hadd];simp;omega
 have e5:m+1+(n-m)=(rO E d nm id).length:=by omega
 obtain⟨-,hcc,hnz,hrow2⟩:=ah.nX hown hm;rw[e5]at hcc hrow2;refine⟨rfl,A,c,u,hB,by rw[hlen],hcc,hnz,?_⟩;have e6:(rO E d nm id).flatMap fH=((E.take m).flatMap fH++fH (d,nm,id))++(E.drop m).flatMap fH:=by rw[hadd];simp
 rw[e6];exact hrow2
theorem ng{w:World}{g:Nat}{vs:List Value}{t:TypeId}{z:Nat×Nat}(h:w.heap[g]? =some (.cells vs.toArray t z))(hm:vs.length≤maxLen):ah (fun x=>x=g) w (some ⟨g,0,none⟩) vs.length vs:=by
 refine⟨rfl,hm,fun _=>⟨g,0,rfl,rfl,(iL.1 h).1,fun i hi=> ?_⟩⟩;simp[World.cell?,h]
theorem jm(w:World)(o o':Obj):((w.alloc o).alloc o').drew.heap[w.heap.size]? =some o∧((w.alloc o).alloc o').drew.heap[w.heap.size+1]? =some o':=by
 constructor
 ·have:=(MapKept.heap_alloc w o).1;have h2:=abr (w.alloc o) o' w.heap.size (by simp);exact h2.trans this
 ·have:=(MapKept.heap_alloc (w.alloc o) o').1;have hs:(w.alloc o).heap.size=w.heap.size+1:=by simp
  rw[hs]at this;exact this
section
variable{F:Nat→Prop}{r:Nat}{T:aA}{D:List (List UInt8)}{E:List jT}
theorem QS(d:Int)(nm:Nm)(id:Int)(w:World)(b n cE:Nat)(hc2:w.cell? ⟨r,2,none⟩=some (.slice (some ⟨b,0,none⟩) n cE))(hrw:r<w.heap.size)(hfr:w.frozen? ⟨r,2,none⟩=false)(hn:E.length=n)(hcap:n≤cE)(hn6:n≤1000000)(hrow:ah F w (some ⟨b,0,none⟩) (n*3) (E.flatMap fH)):
  Calls Tryz.prog 113 #[ptr r,.int .i64 d,.string (strOf nm),.int .i64 id] w (DU w r (rO E d nm id)):=by
 obtain⟨i,hi,hz,h3,h32⟩:=aam Cu;have HI:=acr (And.intro hi (And.intro hz (And.intro h3 h32)));have HN:=acr hrow;have HL:=acr hn;have iW:acs (∀w1,Below w.heap.size w w1→w1.cell? ⟨r,2,none⟩=some (.slice (some ⟨b,0,none⟩) n cE)∧w1.frozen? ⟨r,2,none⟩=false):=fun w1 hb=>⟨by rw[hb.cell (p:=⟨r,2,none⟩) hrw];exact hc2,by rw[hb.frozen (p:=⟨r,2,none⟩) hrw];exact hfr⟩;clear hrow hn hi hz h3 h32;go_enter Tryz.func113,Tryz.ntmps113
 go_upto_block 0 with(fail)
 go_cut [8]from 9 to 53 (fun i wx=>MP E d nm w i wx)
 case first=>
  go_wp2_with fail
  go_loop [8] (fun i=>∃k:Nat,k≤n∧i= .int .i64 k∧(E.take k).all (mh d nm)=true) (fun i=>n-(intOf i).toNat)
  case atStart=>exact⟨0,by omega,rfl,by simp⟩
  case round=>
   obtain⟨k,hk,rfl,hall⟩:=hrel;have HA:=acr hall;clear hall;by_cases hlt:k<n
   ·have hx:E[k]? =some (E[k]'(by have:=HL.o;omega)):=List.getElem?_eq_getElem _;obtain⟨q,hq⟩:∃q,q=E[k]'(by have:=HL.o;omega):=⟨_,rfl⟩;rw[←hq]at hx;have HX:=acr hx;obtain⟨b',off',e,hF,hb,hi,hc⟩:=HN.o.wide jI HL.o hx (by omega);simp only[Pd,aaQ,aaI]at e;obtain⟨rfl,rfl⟩:=e;have c0:w.cell? ⟨b,k*3,none⟩=some (.int .i64 q.1):=by have:=hc 0 (by omega);rwa [Nat.zero_add]at this
    have c1:w.cell? ⟨b,k*3+1,none⟩=some (.string (strOf q.2.1)):=by have:=hc 1 (by omega);rwa [Nat.zero_add]at this
    clear hx hq hc;have i0:(0:Int)≤k:=by omega
    have i1:(k:Int)<n:=by omega
    have hls:Op.bytesLess (strOf q.2.1).toList (strOf nm).toList=bytesBefore q.2.1 nm:=by rw[eu,eu,OI]
    have HR:acs (mh d nm q=true→(E.take (k+1)).all (mh d nm)=true):=fun h=>wY HA.o HX.o h;have HO:acs (mh d nm q=false→MP E d nm w (.int .i64 k) w):=fun h=>MP.of (by have:=HL.o;omega) HA.o fun x hx=>by have:=HX.o;rw[this]at hx;cases hx;exact h
    by_cases hp:q.1<d
    ·have e1:decide (q.1<d)=true:=by simpa using hp
     replace HR:=acr (HR.o (by simp[mh,hp]));clear hp HO;go_wp2
     go_round
     case rel=>exact⟨k+1,by omega,by go_num,HR.o⟩
     case measure=>simp[intOf];omega
    ·have e1:decide (q.1<d)=false:=by simpa using hp
     by_cases hp2:q.1=d
     ·have e2:(q.1==d)=true:=by simpa using hp2
      cases hp3:bytesBefore q.2.1 nm with
      |true=>
       rw[hp3]at hls;replace HR:=acr (HR.o (by simp[mh,hp2,hp3]));clear hp hp2 hp3 HO;go_wp2
       go_round
       case rel=>exact⟨k+1,by omega,by go_num,HR.o⟩
       case measure=>simp[intOf];omega
      |false=>
       rw[hp3]at hls;replace HO:=acr (HO.o (by simp[mh,hp2,hp3]));clear hp hp2 hp3 HR;go_wp2
       go_meet
       exact HO.o
     ·have e2:(q.1==d)=false:=by simpa using hp2
      replace HO:=acr (HO.o (by simp[mh,hp,hp2]));clear hp hp2 HR hls;go_wp2
      go_meet
      exact HO.o
   ·have HO:acs (MP E d nm w (.int .i64 k) w):=MP.of (by have:=HL.o;omega) HA.o fun x hx=>by
     have:=HL.o;rw[List.getElem?_eq_none (by omega)]at hx;cases hx
    go_wp2
    go_meet
    exact HO.o
 case rest=>
  obtain⟨k,hk,rfl,hadd,rfl⟩:=hcut;have hkn:k≤n:=by have:=HL.o;omega
  have qB:acs (∀w1,Below w.heap.size w w1→ah F w1 (some ⟨b,0,none⟩) (k*3) ((E.take k).flatMap fH)∧ah F w1 (if cE=k then some ⟨b,0,none⟩else some ⟨b,k*3,none⟩) ((n-k)*3) ((E.drop k).flatMap fH)):=fun w1 hb=>by
   have h1:=HN.o.below hb acu;have h2:=h1.take (k*3);rw[qz fH 3 jI,abu (by omega)]at h2;have h4:=h1.drop (k*3);rw[qA fH 3 jI,←Nat.sub_mul,Nat.zero_add]at h4;refine⟨h2,?_⟩;by_cases hce:cE=k
   ·rw[if_pos hce];exact ah.zero _ _ _ (by rw[show n-k=0 by omega,abG]) (by rw[aaC (by have:=HL.o;omega)];rfl)
   ·rw[if_neg hce];exact h4
  have i0:(0:Int)≤k:=by omega
  have i1:(k:Int)≤cE:=by omega
  have i2:(k:Int)≤n:=by omega
  have i4:(n:Int)≤cE:=by omega
  have HADD:=acr hadd;clear hadd hk;go_wp2;refine wQ 24 ((fun w'=>w'.cell? ⟨r,2,none⟩=some (.slice (some ⟨b,0,none⟩) n cE)∧w'.frozen? ⟨r,2,none⟩=false)) ?_ fun hS=> ?_
  ·exact iW.o _ acv.drew
  refine aC 0 hS ?_;refine aC 2 hS ?_;refine aC 3 hS ?_;refine aC 4 hS ?_;refine aC 5 hS ?_;refine aC 6 hS ?_;refine aC 7 hS ?_;refine aC 9 hS ?_;refine aC 10 hS ?_;refine aC 11 hS ?_;refine aC 12 hS ?_;refine aC 15 hS ?_;refine aC 16 hS ?_;refine aC 17 hS ?_;refine aC 18 hS ?_;refine aC 19 hS ?_;refine aC 20 hS ?_;refine oI 1 13 (fun K hK=> ?wa) fun K hK=> ?wb
  case wa=>
   go_simp;refine bV hK (iW.o _ (acv.drew.alloc acu _)) fun hS=> ?_;clear hK K;refine oI 8 13 (fun K hK=> ?waa) fun K hK=> ?wab
   case waa=>
    refine au (by rfl) (.tmp 55) (.tmp 61) 111 (by rfl) w.heap.size 146 i _ 3 32 Tryz.underlying111 HI.o.1 HI.o.2.1 HI.o.2.2.1 HI.o.2.2.2 rfl (by omega) _ 0 [] (by rfl) (fT (MapKept.heap_alloc w.drew _).1 acu) _ k _ ((E.take k).flatMap fH) (by rfl) (qB.o _ (acv.drew.alloc acu _)).1 (m_ _) (by unfold maxLen;omega) (by omega) (by simp<;>omega) ?_;intro A1 c1 u1 hown0 hb1;have hB0:Below w.heap.size w u1:=(acv.drew.alloc acu _).trans hb1;refine bV hK (iW.o _ hB0) fun hS=> ?_;clear hK K;refine bU 13 fun K hK=> ?_;go_simp;refine bV hK (iW.o _ (hB0.alloc hB0.size _)) fun hS=> ?_;clear hK K;rw[Nat.zero_add]at hown0;have hown1:=own_below hown0 (acv.alloc acu (.cells (fH (d,nm,id)).toArray 146));have hrow:=lH (w:=u1) (fH (d,nm,id)) 146 (by simp[fH,maxLen]);have hB1:Below w.heap.size w (u1.alloc (.cells (fH (d,nm,id)).toArray 146)):=hB0.alloc hB0.size _;refine bU 14 fun K hK=> ?_;refine au (by rfl) (.tmp 62) (.tmp 67) 111 (by rfl) w.heap.size 146 i _ 3 32 Tryz.underlying111 HI.o.1 HI.o.2.1 HI.o.2.2.1 HI.o.2.2.2 rfl (by omega) _ _ _ (by rfl) hown1 _ 1 _ (fH (d,nm,id)) (by rfl) hrow (sG _) (by unfold maxLen;omega) (by omega) hB1.size ?_;intro A2 c2 u2 hown2 hb2;have hB2:Below w.heap.size w u2:=hB1.trans hb2;refine bV hK (iW.o _ hB2) fun hS=> ?_;clear hK K;refine bU 21 fun K hK=> ?_;refine au (by rfl) (.tmp 68) (.tmp 74) 111 (by rfl) w.heap.size 146 i _ 3 32 Tryz.underlying111 HI.o.1 HI.o.2.1 HI.o.2.2.1 HI.o.2.2.2 rfl (by omega) _ _ _ (by rfl) hown2 _ (n-k) _ ((E.drop k).flatMap fH) (by rfl) (qB.o _ hB2).2 (m_ _) (by unfold maxLen;omega) (by omega) hB2.size ?_;intro A3 c3 u3 hown3 hb3;have hB3:Below w.heap.size w u3:=hB2.trans hb3;refine bV hK (iW.o _ hB3) fun hS=> ?_;clear hK K;refine aC 22 hS ?_;refine aC 23 hS ?_;refine bU 24 fun K hK=> ?_;go_simp;refine nk hK ?_;clear hS hK K;go_wp2
    all_goals (
     go_end0
     exact wH HADD.o HL.o hkn hB3 (by omega) (by simp) hown3 (by unfold maxLen;omega))
   case wab=>
    go_simp;refine bV hK (iW.o _ ((acv.drew.alloc acu _).alloc (by simp<;>omega) _)) fun hS=> ?_;clear hK K;refine bU 8 fun K hK=> ?_;refine eZ (by rfl) (.tmp 55) (.tmp 61) 111 (by rfl) w.heap.size 146 i _ 3 32 Tryz.underlying111 HI.o.1 HI.o.2.1 HI.o.2.2.1 HI.o.2.2.2 rfl (by omega) _ 0 [] (by rfl) (fT (jm w _ _).1 acu) _ k _ ((E.take k).flatMap fH) (by rfl) (qB.o _ ((acv.drew.alloc acu _).alloc (by simp<;>omega) _)).1 (m_ _) (by unfold maxLen;omega) (by omega) (by simp<;>omega) ?_;intro A1 c1 u1 hown1 hb1 hg1;have hB1:Below w.heap.size w u1:=((acv.drew.alloc acu _).alloc (by simp<;>omega) _).trans hb1;have hrow:=(ng (vs:=fH (d,nm,id)) (jm w (.cells #[] 146) (.cells (fH (d,nm,id)).toArray 146)).2 (by simp[fH,maxLen])).grown hg1 (fun b hb hbw=>by subst hb;simp[Value.ownBlock]);refine bV hK (iW.o _ hB1) fun hS=> ?_;clear hK K;refine bU 14 fun K hK=> ?_;refine au (by rfl) (.tmp 62) (.tmp 67) 111 (by rfl) w.heap.size 146 i _ 3 32 Tryz.underlying111 HI.o.1 HI.o.2.1 HI.o.2.2.1 HI.o.2.2.2 rfl (by omega) _ _ _ (by rfl) hown1 _ 1 _ (fH (d,nm,id)) (by rfl) hrow (sG _) (by unfold maxLen;omega) (by omega) hB1.size ?_;intro A2 c2 u2 hown2 hb2;have hB2:Below w.heap.size w u2:=hB1.trans hb2;refine bV hK (iW.o _ hB2) fun hS=> ?_;clear hK K;refine bU 21 fun K hK=> ?_;refine au (by rfl) (.tmp 68) (.tmp 74) 111 (by rfl) w.heap.size 146 i _ 3 32 Tryz.underlying111 HI.o.1 HI.o.2.1 HI.o.2.2.1 HI.o.2.2.2 rfl (by omega) _ _ _ (by rfl) hown2 _ (n-k) _ ((E.drop k).flatMap fH) (by rfl) (qB.o _ hB2).2 (m_ _) (by unfold maxLen;omega) (by omega) hB2.size ?_;intro A3 c3 u3 hown3 hb3;have hB3:Below w.heap.size w u3:=hB2.trans hb3;refine bV hK (iW.o _ hB3) fun hS=> ?_;clear hK K;refine aC 22 hS ?_;refine aC 23 hS ?_;refine bU 24 fun K hK=> ?_;go_simp;refine nk hK ?_;clear hS hK K;go_wp2
    all_goals (
     go_end0
     exact wH HADD.o HL.o hkn hB3 (by omega) (by simp) hown3 (by unfold maxLen;omega))
  case wb=>
   go_simp;refine bV hK (iW.o _ (acv.drew.alloc acu _)) fun hS=> ?_;clear hK K;refine bU 1 fun K hK=> ?_;go_simp;refine bV hK (iW.o _ ((acv.drew.alloc acu _).alloc (by simp<;>omega) _)) fun hS=> ?_;clear hK K;refine bU 8 fun K hK=> ?_;refine eZ (by rfl) (.tmp 55) (.tmp 61) 111 (by rfl) w.heap.size 146 i _ 3 32 Tryz.underlying111 HI.o.1 HI.o.2.1 HI.o.2.2.1 HI.o.2.2.2 rfl (by omega) _ 0 [] (by rfl) (fT (jm w _ _).2 (by omega)) _ k _ ((E.take k).flatMap fH) (by rfl) (qB.o _ ((acv.drew.alloc acu _).alloc (by simp<;>omega) _)).1 (m_ _) (by unfold maxLen;omega) (by omega) (by simp<;>omega) ?_;intro A1 c1 u1 hown1 hb1 hg1;have hB1:Below w.heap.size w u1:=((acv.drew.alloc acu _).alloc (by simp<;>omega) _).trans hb1;have hrow:=(ng (vs:=fH (d,nm,id)) (jm w (.cells (fH (d,nm,id)).toArray 146) (.cells #[] 146)).1 (by simp[fH,maxLen])).grown hg1 (fun b hb hbw=>by subst hb;simp[Value.ownBlock]);refine bV hK (iW.o _ hB1) fun hS=> ?_;clear hK K;refine bU 14 fun K hK=> ?_;refine au (by rfl) (.tmp 62) (.tmp 67) 111 (by rfl) w.heap.size 146 i _ 3 32 Tryz.underlying111 HI.o.1 HI.o.2.1 HI.o.2.2.1 HI.o.2.2.2 rfl (by omega) _ _ _ (by rfl) hown1 _ 1 _ (fH (d,nm,id)) (by rfl) hrow (sG _) (by unfold maxLen;omega) (by omega) hB1.size ?_;intro A2 c2 u2 hown2 hb2;have hB2:Below w.heap.size w u2:=hB1.trans hb2;refine bV hK (iW.o _ hB2) fun hS=> ?_;clear hK K;refine bU 21 fun K hK=> ?_;refine au (by rfl) (.tmp 68) (.tmp 74) 111 (by rfl) w.heap.size 146 i _ 3 32 Tryz.underlying111 HI.o.1 HI.o.2.1 HI.o.2.2.1 HI.o.2.2.2 rfl (by omega) _ _ _ (by rfl) hown2 _ (n-k) _ ((E.drop k).flatMap fH) (by rfl) (qB.o _ hB2).2 (m_ _) (by unfold maxLen;omega) (by omega) hB2.size ?_;intro A3 c3 u3 hown3 hb3;have hB3:Below w.heap.size w u3:=hB2.trans hb3;refine bV hK (iW.o _ hB3) fun hS=> ?_;clear hK K;refine aC 22 hS ?_;refine aC 23 hS ?_;refine bU 24 fun K hK=> ?_;go_simp;refine nk hK ?_;clear hS hK K;go_wp2
   all_goals (
    go_end0
    exact wH HADD.o HL.o hkn hB3 (by omega) (by simp) hown3 (by unfold maxLen;omega))
theorem UG(d:Int)(nm:Nm)(id:Int)(w:World)(hc2:w.cell? ⟨r,2,none⟩=some (.slice none 0 0))(hrw:r<w.heap.size)(hfr:w.frozen? ⟨r,2,none⟩=false):
  Calls Tryz.prog 113 #[ptr r,.int .i64 d,.string (strOf nm),.int .i64 id] w (DU w r (rO [] d nm id)):=by
 obtain⟨i,hi,hz,h3,h32⟩:=aam Cu;have HI:=acr (And.intro hi (And.intro hz (And.intro h3 h32)));have iW:acs (∀w1,Below w.heap.size w w1→w1.cell? ⟨r,2,none⟩=some (.slice none 0 0)∧w1.frozen? ⟨r,2,none⟩=false):=fun w1 hb=>⟨by rw[hb.cell (p:=⟨r,2,none⟩) hrw];exact hc2,by rw[hb.frozen (p:=⟨r,2,none⟩) hrw];exact hfr⟩;have qB:acs (∀w1:World,ah (fun _=>True) w1 none (0*3) []∧ah (fun _=>True) w1 none (0*3) []):=fun w1=>⟨ah.zero _ _ _ rfl rfl,ah.zero _ _ _ rfl rfl⟩;clear hi hz h3 h32;go_enter Tryz.func113,Tryz.ntmps113
 go_upto_block 0 with(fail)
 go_cut [8]from 9 to 53 (fun i wx=>i= .int .i64 0∧w=wx)
 case first=>
  go_wp2_with fail
  go_loop [8] (fun i=>i= .int .i64 0) (fun _=>0)
  case atStart=>rfl
  case round=>
   subst hrel;go_wp2
   go_meet
   exact⟨rfl,rfl⟩
 case rest=>
  obtain⟨rfl,rfl⟩:=hcut;go_wp2;refine wQ 24 ((fun w'=>w'.cell? ⟨r,2,none⟩=some (.slice none 0 0)∧w'.frozen? ⟨r,2,none⟩=false)) ?_ fun hS=> ?_
  ·exact iW.o _ acv.drew
  refine aC 0 hS ?_;refine aC 2 hS ?_;refine aC 3 hS ?_;refine aC 4 hS ?_;refine aC 5 hS ?_;refine aC 6 hS ?_;refine aC 7 hS ?_;refine aC 9 hS ?_;refine aC 10 hS ?_;refine aC 11 hS ?_;refine aC 12 hS ?_;refine aC 15 hS ?_;refine aC 16 hS ?_;refine aC 17 hS ?_;refine aC 18 hS ?_;refine aC 19 hS ?_;refine aC 20 hS ?_;refine oI 1 13 (fun K hK=> ?wa) fun K hK=> ?wb
  case wa=>
   go_simp;refine bV hK (iW.o _ (acv.drew.alloc acu _)) fun hS=> ?_;clear hK K;refine oI 8 13 (fun K hK=> ?waa) fun K hK=> ?wab
   case waa=>
    refine au (by rfl) (.tmp 55) (.tmp 61) 111 (by rfl) w.heap.size 146 i _ 3 32 Tryz.underlying111 HI.o.1 HI.o.2.1 HI.o.2.2.1 HI.o.2.2.2 rfl (by omega) _ 0 [] (by rfl) (fT (MapKept.heap_alloc w.drew _).1 acu) _ 0 _ [] (by rfl) (qB.o _).1 (fun u hu=>by cases hu) (by unfold maxLen;omega) (by omega) (by simp<;>omega) ?_;intro A1 c1 u1 hown0 hb1;have hB0:Below w.heap.size w u1:=(acv.drew.alloc acu _).trans hb1;refine bV hK (iW.o _ hB0) fun hS=> ?_;clear hK K;refine bU 13 fun K hK=> ?_;go_simp;refine bV hK (iW.o _ (hB0.alloc hB0.size _)) fun hS=> ?_;clear hK K;have hown1:=own_below hown0 (acv.alloc acu (.cells (fH (d,nm,id)).toArray 146));have hrow:=lH (w:=u1) (fH (d,nm,id)) 146 (by simp[fH,maxLen]);have hB1:Below w.heap.size w (u1.alloc (.cells (fH (d,nm,id)).toArray 146)):=hB0.alloc hB0.size _;refine bU 14 fun K hK=> ?_;refine au (by rfl) (.tmp 62) (.tmp 67) 111 (by rfl) w.heap.size 146 i _ 3 32 Tryz.underlying111 HI.o.1 HI.o.2.1 HI.o.2.2.1 HI.o.2.2.2 rfl (by omega) _ _ _ (by rfl) hown1 _ 1 _ (fH (d,nm,id)) (by rfl) hrow (sG _) (by unfold maxLen;omega) (by omega) hB1.size ?_;intro A2 c2 u2 hown2 hb2;have hB2:Below w.heap.size w u2:=hB1.trans hb2;refine bV hK (iW.o _ hB2) fun hS=> ?_;clear hK K;refine bU 21 fun K hK=> ?_;refine au (by rfl) (.tmp 68) (.tmp 74) 111 (by rfl) w.heap.size 146 i _ 3 32 Tryz.underlying111 HI.o.1 HI.o.2.1 HI.o.2.2.1 HI.o.2.2.2 rfl (by omega) _ _ _ (by rfl) hown2 _ 0 _ [] (by rfl) (qB.o _).2 (fun u hu=>by cases hu) (by unfold maxLen;omega) (by omega) hB2.size ?_;intro A3 c3 u3 hown3 hb3;have hB3:Below w.heap.size w u3:=hB2.trans hb3;refine bV hK (iW.o _ hB3) fun hS=> ?_;clear hK K;refine aC 22 hS ?_;refine aC 23 hS ?_;refine bU 24 fun K hK=> ?_;go_simp;refine nk hK ?_;clear hS hK K;go_wp2
    all_goals (
     go_end0
     exact wH (E:=[]) (k:=0) (m:=0) (n:=0) rfl rfl acu hB3 rfl rfl hown3 (by unfold maxLen;omega))
   case wab=>
    go_simp;refine bV hK (iW.o _ ((acv.drew.alloc acu _).alloc (by simp<;>omega) _)) fun hS=> ?_;clear hK K;refine bU 8 fun K hK=> ?_;refine eZ (by rfl) (.tmp 55) (.tmp 61) 111 (by rfl) w.heap.size 146 i _ 3 32 Tryz.underlying111 HI.o.1 HI.o.2.1 HI.o.2.2.1 HI.o.2.2.2 rfl (by omega) _ 0 [] (by rfl) (fT (jm w _ _).1 acu) _ 0 _ [] (by rfl) (qB.o _).1 (fun u hu=>by cases hu) (by unfold maxLen;omega) (by omega) (by simp<;>omega) ?_;intro A1 c1 u1 hown1 hb1 hg1;have hB1:Below w.heap.size w u1:=((acv.drew.alloc acu _).alloc (by simp<;>omega) _).trans hb1;have hrow:=(ng (vs:=fH (d,nm,id)) (jm w (.cells #[] 146) (.cells (fH (d,nm,id)).toArray 146)).2 (by simp[fH,maxLen])).grown hg1 (fun b hb hbw=>by subst hb;simp[Value.ownBlock]);refine bV hK (iW.o _ hB1) fun hS=> ?_;clear hK K;refine bU 14 fun K hK=> ?_;refine au (by rfl) (.tmp 62) (.tmp 67) 111 (by rfl) w.heap.size 146 i _ 3 32 Tryz.underlying111 HI.o.1 HI.o.2.1 HI.o.2.2.1 HI.o.2.2.2 rfl (by omega) _ _ _ (by rfl) hown1 _ 1 _ (fH (d,nm,id)) (by rfl) hrow (sG _) (by unfold maxLen;omega) (by omega) hB1.size ?_;intro A2 c2 u2 hown2 hb2;have hB2:Below w.heap.size w u2:=hB1.trans hb2;refine bV hK (iW.o _ hB2) fun hS=> ?_;clear hK K;refine bU 21 fun K hK=> ?_;refine au (by rfl) (.tmp 68) (.tmp 74) 111 (by rfl) w.heap.size 146 i _ 3 32 Tryz.underlying111 HI.o.1 HI.o.2.1 HI.o.2.2.1 HI.o.2.2.2 rfl (by omega) _ _ _ (by rfl) hown2 _ 0 _ [] (by rfl) (qB.o _).2 (fun u hu=>by cases hu) (by unfold maxLen;omega) (by omega) hB2.size ?_;intro A3 c3 u3 hown3 hb3;have hB3:Below w.heap.size w u3:=hB2.trans hb3;refine bV hK (iW.o _ hB3) fun hS=> ?_;clear hK K;refine aC 22 hS ?_;refine aC 23 hS ?_;refine bU 24 fun K hK=> ?_;go_simp;refine nk hK ?_;clear hS hK K;go_wp2
    all_goals (
     go_end0
     exact wH (E:=[]) (k:=0) (m:=0) (n:=0) rfl rfl acu hB3 rfl rfl hown3 (by unfold maxLen;omega))
  case wb=>
   go_simp;refine bV hK (iW.o _ (acv.drew.alloc acu _)) fun hS=> ?_;clear hK K;refine bU 1 fun K hK=> ?_;go_simp;refine bV hK (iW.o _ ((acv.drew.alloc acu _).alloc (by simp<;>omega) _)) fun hS=> ?_;clear hK K;refine bU 8 fun K hK=> ?_;refine eZ (by rfl) (.tmp 55) (.tmp 61) 111 (by rfl) w.heap.size 146 i _ 3 32 Tryz.underlying111 HI.o.1 HI.o.2.1 HI.o.2.2.1 HI.o.2.2.2 rfl (by omega) _ 0 [] (by rfl) (fT (jm w _ _).2 (by omega)) _ 0 _ [] (by rfl) (qB.o _).1 (fun u hu=>by cases hu) (by unfold maxLen;omega) (by omega) (by simp<;>omega) ?_;intro A1 c1 u1 hown1 hb1 hg1;have hB1:Below w.heap.size w u1:=((acv.drew.alloc acu _).alloc (by simp<;>omega) _).trans hb1;have hrow:=(ng (vs:=fH (d,nm,id)) (jm w (.cells (fH (d,nm,id)).toArray 146) (.cells #[] 146)).1 (by simp[fH,maxLen])).grown hg1 (fun b hb hbw=>by subst hb;simp[Value.ownBlock]);refine bV hK (iW.o _ hB1) fun hS=> ?_;clear hK K;refine bU 14 fun K hK=> ?_;refine au (by rfl) (.tmp 62) (.tmp 67) 111 (by rfl) w.heap.size 146 i _ 3 32 Tryz.underlying111 HI.o.1 HI.o.2.1 HI.o.2.2.1 HI.o.2.2.2 rfl (by omega) _ _ _ (by rfl) hown1 _ 1 _ (fH (d,nm,id)) (by rfl) hrow (sG _) (by unfold maxLen;omega) (by omega) hB1.size ?_;intro A2 c2 u2 hown2 hb2;have hB2:Below w.heap.size w u2:=hB1.trans hb2;refine bV hK (iW.o _ hB2) fun hS=> ?_;clear hK K;refine bU 21 fun K hK=> ?_;refine au (by rfl) (.tmp 68) (.tmp 74) 111 (by rfl) w.heap.size 146 i _ 3 32 Tryz.underlying111 HI.o.1 HI.o.2.1 HI.o.2.2.1 HI.o.2.2.2 rfl (by omega) _ _ _ (by rfl) hown2 _ 0 _ [] (by rfl) (qB.o _).2 (fun u hu=>by cases hu) (by unfold maxLen;omega) (by omega) hB2.size ?_;intro A3 c3 u3 hown3 hb3;have hB3:Below w.heap.size w u3:=hB2.trans hb3;refine bV hK (iW.o _ hB3) fun hS=> ?_;clear hK K;refine aC 22 hS ?_;refine aC 23 hS ?_;refine bU 24 fun K hK=> ?_;go_simp;refine nk hK ?_;clear hS hK K;go_wp2
   all_goals (
    go_end0
    exact wH (E:=[]) (k:=0) (m:=0) (n:=0) rfl rfl acu hB3 rfl rfl hown3 (by unfold maxLen;omega))
theorem XU(d:Int)(nm:Nm)(id:Int)(w:World)(h:gX F w r T D E)(hn6:E.length≤1000000):
  Calls Tryz.prog 113 #[ptr r,.int .i64 d,.string (strOf nm),.int .i64 id] w (dS F w r T D (rO E d nm id) (.tuple #[])):=by
 obtain⟨aN,cN,aD,cD,aE,cE,h1,h2,h3,h4,h8,h9,h10,h11⟩:=h.head;have hc:w.cell? ⟨r,2,none⟩=some (.slice aE E.length cE):=by simp[World.cell?,h1]
 rcases h11 with⟨rfl,rfl⟩|⟨b,rfl⟩
 ·have hE:E=[]:=aad (by omega);rw[hE]at hc⊢;exact(UG d nm id w hc (h.low r h.own) (ah.frozen h1 rfl)).mono fun e w' hs=>DV h hs
 ·exact(QS d nm id w b E.length cE hc (h.low r h.own) (ah.frozen h1 rfl) rfl h4 hn6 h10).mono fun e w' hs=>DV h hs
end
theorem J2{F:Nat→Prop}{w w1:World}{b off n c k s:Nat}{vs:List Value}(h:ah F w (some ⟨b,off,none⟩) (n*s) vs)(hk:k<n)(hb:Below w.heap.size w w1):
  ah F w1 (some ⟨b,off,none⟩) (k*s) (vs.take (k*s))∧ah F w1 (if c=k+1 then some ⟨b,off,none⟩else some ⟨b,off+(k+1)*s,none⟩) ((n-(k+1))*s) (vs.drop ((k+1)*s))∨c<n:=by
 by_cases hcn:c<n
 ·exact .inr hcn
 ·left;have h1:=h.below hb acu;have h2:=h1.take (k*s);have hks:k*s≤n*s:=ab8 s (by omega);rw[abu hks]at h2;have h4:=h1.drop ((k+1)*s);rw[←Nat.sub_mul]at h4;refine⟨h2,?_⟩;by_cases hce:c=k+1
  ·rw[if_pos hce];have hl:=h.length;have hkn:k+1=n:=by omega
   exact ah.zero _ _ _ (by rw[show n-(k+1)=0 by omega,abG]) (by rw[hkn];exact aaC (by omega))
  ·rw[if_neg hce];exact h4
theorem iU{w:World}{r:Nat}{x0 x1 x2:Value}(h1:w.heap[r]? =some (.cells #[x0,x1,x2] 113 (0,0))):w.cell? ⟨r,0,none⟩=some x0∧w.cell? ⟨r,1,none⟩=some x1∧w.cell? ⟨r,2,none⟩=some x2∧∀j,w.frozen? ⟨r,j,none⟩=false:=by
 refine⟨?_,?_,?_,fun j=> ?_⟩<;>simp[World.cell?,World.frozen?,h1]
section
variable{F:Nat→Prop}{r:Nat}{T:aA}{D:List (List UInt8)}{E:List jT}
theorem QT(id:Int)(k:Nat)(w:World)(h:gX F w r T D E)(hl:T.length≤64)(hD:D.length=T.length)(hi:rG (qR id) T=k)(hk:k<T.length):
  Calls Tryz.prog 116 #[ptr r,.int .i64 id] w (dS F w r (T.take k++T.drop (k+1)) (D.take k++D.drop (k+1)) E (.tuple #[])):=by
 obtain⟨i6,a6,b6,s6,d6⟩:=aam nodeInfo;have kQ:=acr (And.intro a6 (And.intro b6 (And.intro s6 d6)));obtain⟨i1,a1,b1,s1,d1⟩:=aam zo;have HI1:=acr (And.intro a1 (And.intro b1 (And.intro s1 d1)));have HAT:=acr (zn id w h hl);rw[hi]at HAT;have HH:=acr h;obtain⟨aN,cN,aD,cD,aE,cE,h1,h2,h3,h4,h8,h9,h10,h11⟩:=h.head;obtain⟨vs,hv,hrow⟩:=h9;obtain⟨bN,oN,rfl,hFN,hbN,-,-⟩:=h8.wide gK rfl (List.getElem?_eq_getElem hk) (by omega);obtain⟨bD,oD,rfl,hFD,hbD,-⟩:=hv.at_ (by omega);have hlv:=hv.length;have hrw:=h.low r h.own;have HE:=acr (Each.cut (F:=Off F r) (w:=w) (vs:=vs) (bs:=D) hrow hlv k (by omega));have wI:=acr (And.intro (fun u hu=>Each.one (F:=Off F r) (w:=w) hrow hlv u (List.mem_of_mem_take hu):∀u∈vs.take k,u.oneCell'=true) (fun u hu=>Each.one (F:=Off F r) (w:=w) hrow hlv u (List.mem_of_mem_drop hu):∀u∈vs.drop (k+1),u.oneCell'=true));have hLT:(T.take k++T.drop (k+1)).length=k+(T.length-(k+1)):=by simp;omega
 have hLD:(D.take k++D.drop (k+1)).length=k+(T.length-(k+1)):=by simp;omega
 rw[hD]at h1 h3 hv hlv;generalize hn:T.length=n at*;have wB:=acr hLT;have QU:=acr hLD;obtain⟨p0,p1,p2,pf⟩:=iU h1;have Ab:=acr h1;have HV:=acr hv;have EL:acs (∀w1,Below w.heap.size w w1→w1.cell? ⟨r,0,none⟩=some (.slice (some ⟨bN,oN,none⟩) n cN)∧w1.frozen? ⟨r,0,none⟩=false):=fun w1 hb=>⟨by rw[hb.cell (p:=⟨r,0,none⟩) hrw];exact p0,by rw[hb.frozen (p:=⟨r,0,none⟩) hrw];exact pf 0⟩;have qw:acs (∀w1,Below w.heap.size w w1→ah (Off F r) w1 (some ⟨bN,oN,none⟩) (k*6) ((T.take k).flatMap dM)∧ah (Off F r) w1 (if cN=k+1 then some ⟨bN,oN,none⟩else some ⟨bN,oN+(k+1)*6,none⟩) ((n-(k+1))*6) ((T.drop (k+1)).flatMap dM)):=fun w1 hb=>by
  have:=(J2 (c:=cN) h8 hk hb).resolve_right (by omega)
  rwa [qz dM 6 gK,qA dM 6 gK]at this
 have HCD:acs (n≤cD):=h3;have i0:(0:Int)≤k:=by omega
 have i1':(k:Int)≤cN:=by omega
 have i2:(k:Int)+1≤n:=by omega
 have i3:(0:Int)≤(k:Int)+1:=by omega
 have i4:(n:Int)≤cN:=by omega
 have i5:(k:Int)≤cD:=by omega
 have i6':(n:Int)≤cD:=by omega
 have e1:IntKind.i64.wrap ((k:Int)+1)=(k:Int)+1:=aag _ (by omega);clear a6 b6 s6 d6 a1 b1 s1 d1 hrow hv hLT hLD h1 h8 h10 h11 hD hi hn h hlv p0 p1 p2 pf;go_enter Tryz.func116,Tryz.ntmps116;go_wp2_with fail;refine HAT.o.mono ?_;rintro e w' ⟨rfl,rfl⟩;go_upto_region 1 with(fail)
 go_cut [] (fun wx=>bW w r (.slice (some ⟨bD,oD,none⟩) n cD) (.slice aE E.length cE) (T.take k++T.drop (k+1)) wx)
 case first=>
  go_wp2;refine wQ 19 ((fun w'=>w'.cell? ⟨r,0,none⟩=some (.slice (some ⟨bN,oN,none⟩) n cN)∧w'.frozen? ⟨r,0,none⟩=false)) ?_ fun hS=> ?_
  ·exact EL.o _ acv.drew
  refine aC 0 hS ?_;refine aC 2 hS ?_;refine aC 3 hS ?_;refine aC 4 hS ?_;refine aC 5 hS ?_;refine aC 6 hS ?_;refine aC 7 hS ?_;refine aC 9 hS ?_;refine aC 10 hS ?_;refine aC 11 hS ?_;refine aC 12 hS ?_;refine aC 13 hS ?_;refine aC 14 hS ?_;refine aC 15 hS ?_;refine bU 1 fun K hK=> ?_;go_simp;refine bV hK (EL.o _ (acv.drew.alloc acu _)) fun hS=> ?_;clear hK K;refine bU 8 fun K hK=> ?_;refine au (by rfl) (.tmp 9) (.tmp 15) 110 (by rfl) w.heap.size 39 _ _ 6 48 Tryz.underlying110 kQ.o.1 kQ.o.2.1 kQ.o.2.2.1 kQ.o.2.2.2 rfl (by omega) _ 0 [] (by rfl) (fT (MapKept.heap_alloc w.drew _).1 acu) _ k _ ((T.take k).flatMap dM) (by rfl) (qw.o _ (acv.drew.alloc acu _)).1 (g_ _) (by unfold maxLen;omega) (by omega) (by simp) ?_;intro A1 c1 u1 hown1 hb1;have hB1:Below w.heap.size w u1:=(acv.drew.alloc acu _).trans hb1;refine bV hK (EL.o _ hB1) fun hS=> ?_;clear hK K;refine bU 16 fun K hK=> ?_;refine au (by rfl) (.tmp 16) (.tmp 23) 110 (by rfl) w.heap.size 39 _ _ 6 48 Tryz.underlying110 kQ.o.1 kQ.o.2.1 kQ.o.2.2.1 kQ.o.2.2.2 rfl (by omega) _ _ _ (by rfl) hown1 _ (n-(k+1)) _ ((T.drop (k+1)).flatMap dM) (by rfl) (qw.o _ hB1).2 (g_ _) (by unfold maxLen;omega) (by omega) hB1.size ?_;intro A2 c2 u2 hown2 hb2;have hB2:Below w.heap.size w u2:=hB1.trans hb2;refine bV hK (EL.o _ hB2) fun hS=> ?_;clear hK K;refine aC 17 hS ?_;refine aC 18 hS ?_;refine bU 19 fun K hK=> ?_;go_simp;refine nk hK ?_;clear hS hK K;go_wp2_with fail
  all_goals (
   go_meet
   have hl:=wB.o;have e5:0+k+(n-(k+1))=(T.take k++T.drop (k+1)).length:=by omega
   obtain⟨-,hcc,-,hrow2⟩:=pF (w:=w) hown2 (by unfold maxLen;omega) acu;rw[List.nil_append,←aaG,e5]at hrow2;rw[e5]at hcc;have:=bW.mk_ hrw Ab.o hB2 hcc hrow2 (mo hown2);rw[hl]at this;exact this)
 case rest=>
  obtain⟨w1,rfl⟩:∃w1:World,w1=wc:=⟨_,rfl⟩;have HM:=acr hcut;obtain⟨hK,-,aM,cM,h5,-,-,-⟩:=hcut;obtain⟨p0,p1,p2,pf⟩:=iU h5;have hs1:=hK.size;have hr1:r<w1.heap.size:=by omega
  have hv1:ah (Off (Grow F w w1) r) w1 (some ⟨bD,oD,none⟩) (n*1) vs:=by rw[aaK];exact tO hK HV.o
  have DW:=acr hK;have yV:acs (∀w2,Below w1.heap.size w1 w2→w2.cell? ⟨r,1,none⟩=some (.slice (some ⟨bD,oD,none⟩) n cD)∧w2.frozen? ⟨r,1,none⟩=false):=fun w2 hb=>⟨by rw[hb.cell (p:=⟨r,1,none⟩) hr1];exact p1,by rw[hb.frozen (p:=⟨r,1,none⟩) hr1];exact pf 1⟩;have ko:acs (∀w2,Below w1.heap.size w1 w2→ah (Off (Grow F w w1) r) w2 (some ⟨bD,oD,none⟩) (k*1) (vs.take k)∧ah (Off (Grow F w w1) r) w2 (if cD=k+1 then some ⟨bD,oD,none⟩else some ⟨bD,oD+(k+1),none⟩) ((n-(k+1))*1) (vs.drop (k+1))):=fun w2 hb=>by
   have:=(J2 (c:=cD) hv1 hk hb).resolve_right (by have:=HCD.o;omega);rw[aaK,aaK]at this;simpa only[aaK]using this
  clear hK h5 p0 p1 p2 pf hv1;go_wp2;refine wQ 19 ((fun w'=>w'.cell? ⟨r,1,none⟩=some (.slice (some ⟨bD,oD,none⟩) n cD)∧w'.frozen? ⟨r,1,none⟩=false)) ?_ fun hS=> ?_
  ·exact yV.o _ acv.drew
  refine aC 0 hS ?_;refine aC 2 hS ?_;refine aC 3 hS ?_;refine aC 4 hS ?_;refine aC 5 hS ?_;refine aC 6 hS ?_;refine aC 7 hS ?_;refine aC 9 hS ?_;refine aC 10 hS ?_;refine aC 11 hS ?_;refine aC 12 hS ?_;refine aC 13 hS ?_;refine aC 14 hS ?_;refine aC 15 hS ?_;refine bU 1 fun K hK=> ?_;go_simp;refine bV hK (yV.o _ (acv.drew.alloc acu _)) fun hS=> ?_;clear hK K;refine bU 8 fun K hK=> ?_;refine au (by rfl) (.tmp 28) (.tmp 34) 46 (by rfl) w1.heap.size 28 _ _ 1 24 Tryz.underlying46 HI1.o.1 HI1.o.2.1 HI1.o.2.2.1 HI1.o.2.2.2 rfl (by omega) _ 0 [] (by rfl) (fT (MapKept.heap_alloc w1.drew _).1 acu) _ k _ (vs.take k) (by rfl) (ko.o _ (acv.drew.alloc acu _)).1 wI.o.1 (by unfold maxLen;omega) (by omega) (by simp) ?_;intro A1 c1 u1 hown1 hb1;have hB1:Below w1.heap.size w1 u1:=(acv.drew.alloc acu _).trans hb1;refine bV hK (yV.o _ hB1) fun hS=> ?_;clear hK K;refine bU 16 fun K hK=> ?_;refine au (by rfl) (.tmp 35) (.tmp 42) 46 (by rfl) w1.heap.size 28 _ _ 1 24 Tryz.underlying46 HI1.o.1 HI1.o.2.1 HI1.o.2.2.1 HI1.o.2.2.2 rfl (by omega) _ _ _ (by rfl) hown1 _ (n-(k+1)) _ (vs.drop (k+1)) (by rfl) (ko.o _ hB1).2 wI.o.2 (by unfold maxLen;omega) (by omega) hB1.size ?_;intro A2 c2 u2 hown2 hb2;have hB2:Below w1.heap.size w1 u2:=hB1.trans hb2;refine bV hK (yV.o _ hB2) fun hS=> ?_;clear hK K;refine aC 17 hS ?_;refine aC 18 hS ?_;refine bU 19 fun K hK=> ?_;go_simp;refine nk hK ?_;clear hS hK K;go_wp2
  all_goals (
   go_end0
   have hl:=QU.o;have e5:0+k+(n-(k+1))=(D.take k++D.drop (k+1)).length:=by omega
   obtain⟨-,hcc,-,hrow2⟩:=pF (w:=w) hown2 (by unfold maxLen;omega) hs1;rw[List.nil_append,aaK,e5]at hrow2;rw[e5]at hcc;have:=gX.Gg HH.o Ab.o HM.o hB2 hcc hrow2 (HE.o.move (by have:=hB2.size;omega) fun b hb hbw=>⟨⟨.inl hb.1,hb.2⟩,(hB2.block b (by omega)).trans (DW.o.block b hbw hb.2)⟩) (.tuple #[]);rw[hl]at this;exact this)
end
theorem bW.facts{w wx:World}{r:Nat}{x1 x2:Value}{T:aA}(h:bW w r x1 x2 T wx){k:Nat}{q:Int×bJ}(hq:T[k]? =some q):∃g off c,wx.cell? ⟨r,0,none⟩=some (.slice (some ⟨g,off,none⟩) T.length c)∧wx.cell? ⟨r,1,none⟩=some x1∧wx.cell? ⟨r,2,none⟩=some x2∧T.length≤c∧(∀j,wx.frozen? ⟨r,j,none⟩=false)∧g≠r∧w.heap.size≤g∧g<wx.heap.size∧r<wx.heap.size∧(∀j,wx.frozen? ⟨g,j,none⟩=false)∧
  (wx.cell? ⟨g,off+k*6,none⟩=some (.int .i64 q.1)∧wx.cell? ⟨g,off+k*6+1,none⟩=some (.int .i64 q.2.kind)∧wx.cell? ⟨g,off+k*6+2,none⟩=some (.int .i64 q.2.links)∧wx.cell? ⟨g,off+k*6+3,none⟩=some (.int .i64 q.2.b.length)∧wx.cell? ⟨g,off+k*6+4,none⟩=some (.int .u64 q.2.aF)∧wx.cell? ⟨g,off+k*6+5,none⟩=some (.bool q.2.closed)):=by
 obtain⟨hK,hr,a,c,h2,h3,h4,hp⟩:=h;obtain⟨g,off,rfl,hF,hb,hi,hc⟩:=h4.wide gK rfl hq (by omega);obtain⟨p0,p1,p2,pf⟩:=iU h2;have:=hF.1;have hs:=hK.size;exact⟨g,off,c,p0,p1,p2,h3,pf,by omega,hF.1,hb,by omega,hp.frozen,hc 0 (by omega),hc 1 (by omega),hc 2 (by omega),hc 3 (by omega),hc 4 (by omega),hc 5 (by omega)⟩
section
variable{F:Nat→Prop}{r:Nat}{T:aA}{D:List (List UInt8)}{E:List jT}
theorem MQ(id Au:Int)(k:Nat)(q:Int×bJ)(w:World)(h:gX F w r T D E)(hl:T.length≤64)(hi:rG (qR id) T=k)(hq:T[k]? =some q)(hb0: -1≤Au∧Au≤1)(hl0:0≤q.2.links∧q.2.links≤64):
  Calls Tryz.prog 114 #[ptr r,.int .i64 id,.int .i64 Au] w (dS F w r (T.set k (q.1,{q.2 with links:=q.2.links+Au})) D E (.tuple #[])):=by
 obtain⟨i6,a6,b6,s6,d6⟩:=aam nodeInfo;have kQ:=acr (And.intro a6 (And.intro b6 (And.intro s6 d6)));have hk:k<T.length:=(aac.1 hq).1;have HAT:=acr (zn id w h hl);rw[hi]at HAT;have HH:=acr h;have HQ:=acr hq;obtain⟨aN,cN,aD,cD,aE,cE,h1,h2,h3,h4,h8,h9,h10,h11⟩:=h.head;obtain⟨bN,oN,rfl,hFN,hbN,-,-⟩:=h8.wide gK rfl hq (by omega);have hrw:=h.low r h.own;obtain⟨p0,p1,p2,pf⟩:=iU h1;have Ab:=acr h1;have Cw:=acr h8;obtain⟨n,hn⟩:∃n,n=T.length:=⟨_,rfl⟩;rw[←hn]at p0 hl hk h2 Cw;have jY:=acr hn;have hf0:=pf 0;have hfp:=hFN.2;have i0:(0:Int)≤k:=by omega
 have i2:(k:Int)<n:=by omega
 have e1:IntKind.i64.wrap (q.2.links+Au)=q.2.links+Au:=aag _ (by omega);clear a6 b6 s6 d6 h1 h8 h9 h10 h11 hi h hq hn p1 p2 pf hFN;go_enter Tryz.func114,Tryz.ntmps114;go_wp2_with fail;refine HAT.o.mono ?_;rintro e w' ⟨rfl,rfl⟩;go_upto_region 1 with(fail)
 go_cut [] (fun wx=>bW w r (.slice aD D.length cD) (.slice aE E.length cE) T wx)
 case first=>
  go_wp2_with ((at_builtin;refine gL rfl _ _ 110 rfl w.heap.size 39 _ _ 6 48 Tryz.underlying110 kQ.o.1 kQ.o.2.1 kQ.o.2.2.1 kQ.o.2.2.2 rfl (by omega) _ 0 [] rfl (fT (MapKept.heap_alloc w _).1 acu) _ n _ (T.flatMap dM) rfl (Cw.o.below (acv.alloc acu _) acu) (g_ _) (by unfold maxLen;omega) (by omega) (by simp) ?_;intro A1 c1 w1 hown1 hb1;have hB1:=((Below.refl w.heap.size w).alloc acu _).trans hb1;have hf1:w1.frozen? ⟨r,0,none⟩=false:=(hB1.frozen (p:=⟨r,0,none⟩) hrw).trans hf0;have hc1:=(hB1.cell (p:=⟨r,0,none⟩) hrw).trans p0))
  go_meet
  obtain⟨-,hcc,-,hrow2⟩:=pF (w:=w) hown1 (by unfold maxLen;omega) acu;have hn:=jY.o;rw[List.nil_append,Nat.zero_add,hn]at hrow2;rw[Nat.zero_add,hn]at hcc;have:=bW.mk_ hrw Ab.o hB1 hcc hrow2 (mo hown1);rw[←hn]at this;exact this
 case rest=>
  obtain⟨w1,rfl⟩:∃w1:World,w1=wc:=⟨_,rfl⟩;obtain⟨g,off,c,q0,-,-,hlc,qf,hgr,hg1,hg2,hr1,gf,c0,-,c2,-,-,-⟩:=hcut.facts HQ.o;rw[←jY.o]at q0;have TH:=gf (off+k*6+2);have HM:=acr hcut;have Gh:=acr q0;clear hcut c0 qf gf hlc;go_wp2;refine wQ 17 ((fun w'=>w'.cell? ⟨r,0,none⟩=some (.slice (some ⟨g,off,none⟩) n c)∧w'.cell? ⟨g,off+k*6+2,none⟩=some (.int .i64 q.2.links)∧w'.frozen? ⟨g,off+k*6+2,none⟩=false)) ?_ fun hS=> ?_
  ·exact⟨q0,c2,TH⟩
  refine aC 0 hS ?_;refine aC 1 hS ?_;refine aC 2 hS ?_;refine aC 3 hS ?_;refine aC 4 hS ?_;refine aC 5 hS ?_;refine aC 6 hS ?_;refine aC 7 hS ?_;refine aC 8 hS ?_;refine aC 9 hS ?_;refine aC 10 hS ?_;refine aC 11 hS ?_;refine aC 12 hS ?_;refine aC 13 hS ?_;refine aC 14 hS ?_;refine aC 15 hS ?_;refine aC 16 hS ?_;refine bU 17 fun K hK=> ?_;go_simp;refine nk hK ?_;clear hS hK K;go_wp2
  go_end0
  have h0:=Gh.o;rw[jY.o]at h0;have:=gX.tQ HH.o Ab.o (bW.gI HM.o h0 (k:=k) (j:=2) (q':=(q.1,{q.2 with links:=q.2.links+Au})) (v:= .int .i64 (q.2.links+Au)) HQ.o (by omega) rfl) (.tuple #[]);rw[←Nat.add_assoc]at this;exact this.then_ HH.o.low acv.drew
end
structure vJ(T:aA):Prop where
 sorted:aI iA T
 names:∀q∈T,aI bytesBefore q.2.names
 len:T.length≤64
 few:(aW T).length≤5000
theorem vJ.of{T:aA}(h:dZ T):vJ T:=⟨h.sorted,fun q hq=>(h.each _ _ (aS bY h.sorted hq)).sorted,h.len,by have:=iT h;omega⟩
theorem DX{T:aA}{d:Int}{f:bJ→bJ}{q:Int×bJ}(h:q∈bC d f T):q∈T∨∃p∈T,p.1=d∧q=(p.1,f p.2):=by
 unfold bC at h;obtain⟨p,hp,e⟩:=List.mem_map.1 h;by_cases hd:p.1=d
 ·rw[if_pos hd]at e;exact .inr ⟨p,hp,hd,e.symm⟩
 ·rw[if_neg hd]at e;exact .inl (e▸hp)
theorem vJ.cut{T:aA}(h:vJ T)(d:Int)(n:Nm):vJ (aK T d n):=by
 refine⟨lV _ _ h.sorted,fun q hq=> ?_,by unfold aK;rw[iK];exact h.len,?_⟩
 ·rcases DX hq with h1|⟨p,hp,_,rfl⟩
  ·exact h.names q h1
  ·exact(h.names p hp).bP _
 ·rw[←DN];exact aax (aa4 _ _) h.few
theorem vJ.bC{T:aA}(h:vJ T)(d:Int){f:bJ→bJ}(hf:∀x,(f x).names=x.names):vJ (Go.Proofs.YtjnhnlabpccgjaaGreatDoor.bC d f T):=by
 refine⟨lV _ _ h.sorted,fun q hq=> ?_,by rw[iK];exact h.len,by rw[nO hf];exact h.few⟩;rcases DX hq with h1|⟨p,hp,_,rfl⟩
 ·exact h.names q h1
 ·show aI bytesBefore (f p.2).names;rw[hf];exact h.names p hp
theorem J3(E:List jT)(d:Int)(nm:Nm)(id:Int):(rO E d nm id).length=E.length+1:=by
 unfold rO;have:=aaF List.length (List.takeWhile_append_dropWhile (p:=mh d nm) (l:=E));rw[List.length_append]at this;rw[List.length_append,List.length_cons];omega
theorem vJ.get{T:aA}(h:vJ T){d:Int}{x:bJ}(hx:aj d T=some x):aI bytesBefore x.names:=h.names (d,x) (bM hx)
theorem zq{T:aA}(h:vJ T){id j:Int}{x:bJ}{nm:Nm}(hx:aj id T=some x)(hn:aj nm x.names=some j):∃k:Nat,rG (iR id nm) (aW T)=k∧(aW T)[k]? =some (id,nm,j):=by
 have hmem:((id,nm,j):jT)∈aW T:=(lD h.sorted).2 ⟨x,hx,bM hn⟩;cases hf:(aW T).findIdx? (iR id nm)with
 |none=>
  rw[abb]at hf;have:=hf _ hmem;simp[iR]at this
 |some k=>
  refine⟨k,by simp[rG,hf],?_⟩;rw[aa6]at hf;obtain⟨hk,hp,_⟩:=hf;have h1:(aW T)[k]? =some (aW T)[k]:=List.getElem?_eq_getElem hk;obtain⟨e,he⟩:∃e,e=(aW T)[k]:=⟨_,rfl⟩;have hm:=abQ hk;rw[←he]at h1 hp hm;simp only[iR,aah]at hp;obtain⟨y,hy,hm2⟩:=(lD h.sorted).1 hm;rw[hp.1,hx]at hy;cases hy;have h3:=aS uO (h.get hx) hm2;rw[hp.2,hn]at h3;rw[h1];congr 1;exact aaE hp.1 (aaE hp.2 (aaH h3).symm)
theorem vJ.put{T:aA}(h:vJ T){d:Int}{x:bJ}{n:Nm}(hx:aj d T=some x)(hn:aj n x.names=none)(hf:(aW T).length≤4096)(id:Int):vJ (setName T d n id):=by
 refine⟨lV _ _ h.sorted,fun q hq=> ?_,by unfold setName;rw[iK];exact h.len,?_⟩
 ·rcases DX hq with h1|⟨p,hp,_,rfl⟩
  ·exact h.names q h1
  ·exact(h.names p hp).b_ uO _ _
 ·rw[←DL h.sorted hx (h.get hx) hn,J3];omega
theorem dS.val{F:Nat→Prop}{w w':World}{r:Nat}{T:aA}{D:List (List UInt8)}{E:List jT}{v:Value}{e:Ending}(h:dS F w r T D E v e w')(v2:Value):dS F w r T D E v2 (.returned v2) w':=⟨rfl,h.2.1,h.2.2⟩
section
variable{F:Nat→Prop}{r:Nat}{T:aA}
theorem Cx(d:Int)(nm:Nm)(j:Int)(x:bJ)(w:World)(h:jC F w r T)(hL:vJ T)(hx:aj d T=some x)(hn:aj nm x.names=some j):
  ∃k:Nat,rG (iR d nm) (aW T)=k∧Calls Tryz.prog 115 #[ptr r,.int .i64 k] w (bS F w r (aK T d nm) (.tuple #[])):=by
 obtain⟨k,hk,he⟩:=zq hL hx hn;refine⟨k,hk,(OJ k w h (aac.1 he).1 (by have:=hL.few;omega)).mono fun e w' ht=> ?_⟩;have h1:(aW T).take k++(aW T).drop (k+1)=aW (aK T d nm):=by
  rw[xV (p:=iR d nm) he (by simp[iR]) (MN hL.sorted hL.names d nm),DN]
 rw[h1]at ht;refine⟨ht.1,ht.2.1,?_⟩;have:=ht.2.2.names (T':=aK T d nm) (iK _ _ _) (xW (id:=d) (f:=fun x=>{x with names:=bP nm x.names}) (fun _=>rfl) T);unfold aK at this⊢;rw[pU (fun _=>by exact rfl)];exact this
theorem Cy(d:Int)(nm:Nm)(id:Int)(x:bJ)(w:World)(h:jC F w r T)(hL:vJ T)(hx:aj d T=some x)(hn:aj nm x.names=none):
  Calls Tryz.prog 113 #[ptr r,.int .i64 d,.string (strOf nm),.int .i64 id] w (bS F w r (setName T d nm id) (.tuple #[])):=by
 refine(XU d nm id w h (by have:=hL.few;omega)).mono fun e w' ht=> ?_;rw[DL hL.sorted hx (hL.get hx) hn]at ht;refine⟨ht.1,ht.2.1,?_⟩;have:=ht.2.2.names (T':=setName T d nm id) (iK _ _ _) (xW (id:=d) (f:=fun x=>{x with names:=b_ bytesBefore nm id x.names}) (fun _=>rfl) T);unfold setName at this⊢;rw[pU (fun _=>by exact rfl)];exact this
theorem wJ(id Au:Int)(x:bJ)(w:World)(h:jC F w r T)(hL:vJ T)(hx:aj id T=some x)(hb0: -1≤Au∧Au≤1)(hl0:0≤x.links∧x.links≤64):
  Calls Tryz.prog 114 #[ptr r,.int .i64 id,.int .i64 Au] w (bS F w r (bC id (fun x=>{x with links:=x.links+Au}) T) (.tuple #[])):=by
 obtain⟨k,hk,hq⟩:=lC hL.sorted hx;refine(MQ id Au k (id,x) w h hL.len hk hq hb0 hl0).mono fun e w' ht=> ?_;have h1:=pE (f:=fun x:bJ=>{x with links:=x.links+Au}) hL.sorted hq;simp only at h1 ht;rw[h1]at ht;refine⟨ht.1,ht.2.1,?_⟩;rw[pU (fun _=>by exact rfl),nO (fun _=>by exact rfl)];exact ht.2.2
theorem vK(id:Int)(x:bJ)(w:World)(h:jC F w r T)(hs:aI iA T)(hl:T.length≤64)(hx:aj id T=some x)(hn:x.names=[]):
  Calls Tryz.prog 116 #[ptr r,.int .i64 id] w (bS F w r (bP id T) (.tuple #[])):=by
 obtain⟨k,hk,hq⟩:=lC hs hx;refine(QT id k w h hl (by rw[List.length_map]) hk (aac.1 hq).1).mono fun e w' ht=> ?_;have h1:=del_at hs hq;simp only at h1;rw[←aa3,←abW,←List.map_append,h1]at ht;refine⟨ht.1,ht.2.1,?_⟩;rw[JX (fun q hq2 hid=>by
  have:=aS bY hs hq2;rw[hid,hx]at this;cases this;exact hn)]
 exact ht.2.2
end
end Go.Proofs.YtjnhnlabpccgjaaGreatDoor
