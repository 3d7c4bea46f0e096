/- The -/
import Derived.Test.YtjnhnlabpccgjaaGreatDoorM32
import Derived.WalkLawsBesides
import Derived.Deep.CutBlock
import Derived.Deep.DeepCutAuto
import Derived.Test.YtjnhnlabpccgjaaGreatDoorM20
set_option maxRecDepth 100000
set_option maxHeartbeats 64000000
set_option linter.all false
namespace Go.Proofs.YtjnhnlabpccgjaaGreatDoor
open Go.ChangeShapes Go.WideShapes Go.ChangeAt Go.RowKit
def MF(E:List kJ)(d:Int)(nm:Nm)(w:World)(v:Value)(wx:World):Prop:=
 ∃k:Nat,k≤E.length∧v= .int .i64 k∧su E d nm=(fun id=>E.take k++(d,nm,id)::E.drop k)∧w=wx
theorem MF.of{E:List kJ}{d:Int}{nm:Nm}{w:World}{k:Nat}(hk:k≤E.length)(ha:(E.take k).all (ny d nm)=true)(hx:∀x,E[k]? =some x→ny d nm x=false):MF E d nm w (.int .i64 k) w:=by
 refine⟨k,hk,rfl,?_,rfl⟩;obtain⟨h1,h2⟩:=yj ha hx hk;funext id;unfold su;rw[h1,h2]
theorem xK{α:Type}{p:α→Bool}{l:List α}{k:Nat}{x:α}(h:(l.take k).all p=true)(hx:l[k]? =some x)(hp:p x=true):(l.take (k+1)).all p=true:=by
 obtain⟨hk,e⟩:=aae.1 hx;rw[aah hk,List.all_append,h,e];simp[hp]
theorem tu(e:kJ):∀u∈fZ e,u.oneCell'=true:=by
 intro u hu;simp only[fZ,aay,aaW,abT]at hu;rcases hu with rfl|rfl|rfl<;>rfl
theorem wS{w u:World}{r:Nat}{E:List kJ}{d id:Int}{nm:Nm}{k m n c:Nat}{A:Option Addr}{ys:List Value}(hadd:su E d nm=fun id=>E.take k++(d,nm,id)::E.drop k)(hl:E.length=n)(hk:k≤n)(hB:Below w.heap.size w u)(hmk:m=k)(hys:ys=(E.take k).flatMap fZ)
  (hown:u.ownsRow w.heap.size 146 3 (.slice A (m+1+(n-k)) c) (m+1+(n-k)) ((ys++fZ (d,nm,id))++(E.drop k).flatMap fZ))(hm:(m+1+(n-k))*3≤maxLen):
  DW w r (su E d nm id) (.returned (.tuple #[])) (u.setCell ⟨r,2,none⟩ (.slice A (k+1+(n-k)) c)):=by
 subst hmk hys;have hlen:(su E d nm id).length=m+1+(n-m):=by rw[hadd];simp;omega
 have e5:m+1+(n-m)=(su E d nm id).length:=by omega
 obtain⟨-,hcc,hnz,hrow2⟩:=ah.oM hown hm;rw[e5]at hcc hrow2;refine⟨rfl,A,c,u,hB,by rw[hlen],hcc,hnz,?_⟩;have e6:(su E d nm id).flatMap fZ=((E.take m).flatMap fZ++fZ (d,nm,id))++(E.drop m).flatMap fZ:=by rw[hadd];simp
 rw[e6];exact hrow2
theorem lS{w:World}{g:Nat}{vs:List Value}{t:TypeId}{z:Nat×Nat}(h:w.heap[g]? =some (.cells vs.toArray t z))(hm:vs.length≤maxLen):ah (fun x=>x=g) w (some ⟨g,0,none⟩) vs.length vs:=by
 refine⟨rfl,hm,fun _=>⟨g,0,rfl,rfl,(iA.1 h).1,fun i hi=> ?_⟩⟩;simp[World.cell?,h]
theorem jQ(w:World)(o o':Obj):((w.alloc o).alloc o').drew.heap[w.heap.size]? =some o∧((w.alloc o).alloc o').drew.heap[w.heap.size+1]? =some o':=by
 constructor
 ·have:=(MapKept.heap_alloc w o).1;have h2:=abt (w.alloc o) o' w.heap.size (by simp);exact h2.trans this
 ·have:=(MapKept.heap_alloc (w.alloc o) o').1;have hs:(w.alloc o).heap.size=w.heap.size+1:=by simp
  rw[hs]at this;exact this
section
variable{F:Nat→Prop}{r:Nat}{T:aL}{D:List (List UInt8)}{E:List kJ}
theorem Qh(d:Int)(nm:Nm)(id:Int)(w:World)(b n cE:Nat)(hc2:w.cell? ⟨r,2,none⟩=some (.slice (some ⟨b,0,none⟩) n cE))(hrw:r<w.heap.size)(hfr:w.frozen? ⟨r,2,none⟩=false)(hn:E.length=n)(hcap:n≤cE)(XO:n≤1000000)(hrow:ah F w (some ⟨b,0,none⟩) (n*3) (E.flatMap fZ)):
  Calls Tryz.prog 113 #[ptr r,.int .i64 d,.string (strOf nm),.int .i64 id] w (DW w r (su E d nm id)):=by
 obtain⟨i,hi,hz,h3,h32⟩:=aap Co;have HI:=acA (And.intro hi (And.intro hz (And.intro h3 h32)));have HN:=acA hrow;have HL:=acA hn;have ji:acB (∀w1,Below w.heap.size w w1→w1.cell? ⟨r,2,none⟩=some (.slice (some ⟨b,0,none⟩) n cE)∧w1.frozen? ⟨r,2,none⟩=false):=fun w1 hb=>⟨by rw[hb.cell (p:=⟨r,2,none⟩) hrw];exact hc2,by rw[hb.frozen (p:=⟨r,2,none⟩) hrw];exact hfr⟩;clear hrow hn hi hz h3 h32;go_enter Tryz.func113,Tryz.ntmps113
 go_upto_block 0 with(fail)
 go_cut [8]from 9 to 53 (fun i wx=>MF E d nm w i wx)
 case first=>
  go_wp2_with fail
  go_loop [8] (fun i=>∃k:Nat,k≤n∧i= .int .i64 k∧(E.take k).all (ny d nm)=true) (fun i=>n-(intOf i).toNat)
  case atStart=>exact⟨0,by omega,rfl,by simp⟩
  case round=>
   obtain⟨k,hk,rfl,hall⟩:=hrel;have HA:=acA hall;clear hall;by_cases hlt:k<n
   ·have hx:E[k]? =some (E[k]'(by have:=HL.o;omega)):=List.getElem?_eq_getElem _;obtain⟨q,hq⟩:∃q,q=E[k]'(by have:=HL.o;omega):=⟨_,rfl⟩;rw[←hq]at hx;have HX:=acA hx;obtain⟨b',off',e,hF,hb,hi,hc⟩:=HN.o.wide kg HL.o hx (by omega);simp only[aac,aaS,aaI]at e;obtain⟨rfl,rfl⟩:=e;have c0:w.cell? ⟨b,k*3,none⟩=some (.int .i64 q.1):=by have:=hc 0 (by omega);rwa [Nat.zero_add]at this
    have c1:w.cell? ⟨b,k*3+1,none⟩=some (.string (strOf q.2.1)):=by have:=hc 1 (by omega);rwa [Nat.zero_add]at this
    clear hx hq hc;have i0:(0:Int)≤k:=by omega
    have i1:(k:Int)<n:=by omega
    have hls:Op.bytesLess (strOf q.2.1).toList (strOf nm).toList=bytesBefore q.2.1 nm:=by rw[tN,tN,Oc]
    have HR:acB (ny d nm q=true→(E.take (k+1)).all (ny d nm)=true):=fun h=>xK HA.o HX.o h;have HO:acB (ny d nm q=false→MF E d nm w (.int .i64 k) w):=fun h=>MF.of (by have:=HL.o;omega) HA.o fun x hx=>by have:=HX.o;rw[this]at hx;cases hx;exact h
    by_cases hp:q.1<d
    ·have e1:decide (q.1<d)=true:=by simpa using hp
     replace HR:=acA (HR.o (by simp[ny,hp]));clear hp HO;go_wp2
     go_round
     case rel=>exact⟨k+1,by omega,by go_num,HR.o⟩
     case measure=>simp[intOf];omega
    ·have e1:decide (q.1<d)=false:=by simpa using hp
     by_cases hp2:q.1=d
     ·have e2:(q.1==d)=true:=by simpa using hp2
      cases hp3:bytesBefore q.2.1 nm with
      |true=>
       rw[hp3]at hls;replace HR:=acA (HR.o (by simp[ny,hp2,hp3]));clear hp hp2 hp3 HO;go_wp2
       go_round
       case rel=>exact⟨k+1,by omega,by go_num,HR.o⟩
       case measure=>simp[intOf];omega
      |false=>
       rw[hp3]at hls;replace HO:=acA (HO.o (by simp[ny,hp2,hp3]));clear hp hp2 hp3 HR;go_wp2
       go_meet
       exact HO.o
     ·have e2:(q.1==d)=false:=by simpa using hp2
      replace HO:=acA (HO.o (by simp[ny,hp,hp2]));clear hp hp2 HR hls;go_wp2
      go_meet
      exact HO.o
   ·have HO:acB (MF E d nm w (.int .i64 k) w):=MF.of (by have:=HL.o;omega) HA.o fun x hx=>by
     have:=HL.o;rw[List.getElem?_eq_none (by omega)]at hx;cases hx
    go_wp2
    go_meet
    exact HO.o
 case rest=>
  obtain⟨k,hk,rfl,hadd,rfl⟩:=hcut;have hkn:k≤n:=by have:=HL.o;omega
  have qV:acB (∀w1,Below w.heap.size w w1→ah F w1 (some ⟨b,0,none⟩) (k*3) ((E.take k).flatMap fZ)∧ah F w1 (if cE=k then some ⟨b,0,none⟩else some ⟨b,k*3,none⟩) ((n-k)*3) ((E.drop k).flatMap fZ)):=fun w1 hb=>by
   have h1:=HN.o.below hb acC;have h2:=h1.take (k*3);rw[qR fZ 3 kg,abv (by omega)]at h2;have h4:=h1.drop (k*3);rw[qU fZ 3 kg,←Nat.sub_mul,Nat.zero_add]at h4;refine⟨h2,?_⟩;by_cases hce:cE=k
   ·rw[if_pos hce];exact ah.zero _ _ _ (by rw[show n-k=0 by omega,abE]) (by rw[aaD (by have:=HL.o;omega)];rfl)
   ·rw[if_neg hce];exact h4
  have i0:(0:Int)≤k:=by omega
  have i1:(k:Int)≤cE:=by omega
  have i2:(k:Int)≤n:=by omega
  have i4:(n:Int)≤cE:=by omega
  have HADD:=acA hadd;clear hadd hk;go_wp2;refine qA 24 ((fun w'=>w'.cell? ⟨r,2,none⟩=some (.slice (some ⟨b,0,none⟩) n cE)∧w'.frozen? ⟨r,2,none⟩=false)) ?_ fun hS=> ?_
  ·exact ji.o _ acD.drew
  refine au 0 hS ?_;refine au 2 hS ?_;refine au 3 hS ?_;refine au 4 hS ?_;refine au 5 hS ?_;refine au 6 hS ?_;refine au 7 hS ?_;refine au 9 hS ?_;refine au 10 hS ?_;refine au 11 hS ?_;refine au 12 hS ?_;refine au 15 hS ?_;refine au 16 hS ?_;refine au 17 hS ?_;refine au 18 hS ?_;refine au 19 hS ?_;refine au 20 hS ?_;refine pK 1 13 (fun K hK=> ?wa) fun K hK=> ?wb
  case wa=>
   go_simp;refine bK hK (ji.o _ (acD.drew.alloc acC _)) fun hS=> ?_;clear hK K;refine pK 8 13 (fun K hK=> ?waa) fun K hK=> ?wab
   case waa=>
    refine aF (by rfl) (.tmp 55) (.tmp 61) 111 (by rfl) w.heap.size 146 i _ 3 32 Tryz.underlying111 HI.o.1 HI.o.2.1 HI.o.2.2.1 HI.o.2.2.2 rfl (by omega) _ 0 [] (by rfl) (gI (MapKept.heap_alloc w.drew _).1 acC) _ k _ ((E.take k).flatMap fZ) (by rfl) (qV.o _ (acD.drew.alloc acC _)).1 (nO _) (by unfold maxLen;omega) (by omega) (by simp<;>omega) ?_;intro A1 c1 u1 hown0 hb1;have hB0:Below w.heap.size w u1:=(acD.drew.alloc acC _).trans hb1;refine bK hK (ji.o _ hB0) fun hS=> ?_;clear hK K;refine bB 13 fun K hK=> ?_;go_simp;refine bK hK (ji.o _ (hB0.alloc hB0.size _)) fun hS=> ?_;clear hK K;rw[Nat.zero_add]at hown0;have hown1:=own_below hown0 (acD.alloc acC (.cells (fZ (d,nm,id)).toArray 146));have hrow:=jY (w:=u1) (fZ (d,nm,id)) 146 (by simp[fZ,maxLen]);have hB1:Below w.heap.size w (u1.alloc (.cells (fZ (d,nm,id)).toArray 146)):=hB0.alloc hB0.size _;refine bB 14 fun K hK=> ?_;refine aF (by rfl) (.tmp 62) (.tmp 67) 111 (by rfl) w.heap.size 146 i _ 3 32 Tryz.underlying111 HI.o.1 HI.o.2.1 HI.o.2.2.1 HI.o.2.2.2 rfl (by omega) _ _ _ (by rfl) hown1 _ 1 _ (fZ (d,nm,id)) (by rfl) hrow (tu _) (by unfold maxLen;omega) (by omega) hB1.size ?_;intro A2 c2 u2 hown2 hb2;have hB2:Below w.heap.size w u2:=hB1.trans hb2;refine bK hK (ji.o _ hB2) fun hS=> ?_;clear hK K;refine bB 21 fun K hK=> ?_;refine aF (by rfl) (.tmp 68) (.tmp 74) 111 (by rfl) w.heap.size 146 i _ 3 32 Tryz.underlying111 HI.o.1 HI.o.2.1 HI.o.2.2.1 HI.o.2.2.2 rfl (by omega) _ _ _ (by rfl) hown2 _ (n-k) _ ((E.drop k).flatMap fZ) (by rfl) (qV.o _ hB2).2 (nO _) (by unfold maxLen;omega) (by omega) hB2.size ?_;intro A3 c3 u3 hown3 hb3;have hB3:Below w.heap.size w u3:=hB2.trans hb3;refine bK hK (ji.o _ hB3) fun hS=> ?_;clear hK K;refine au 22 hS ?_;refine au 23 hS ?_;refine bB 24 fun K hK=> ?_;go_simp;refine kX hK ?_;clear hS hK K;go_wp2
    all_goals (
     go_end0
     exact wS HADD.o HL.o hkn hB3 (by omega) (by simp) hown3 (by unfold maxLen;omega))
   case wab=>
    go_simp;refine bK hK (ji.o _ ((acD.drew.alloc acC _).alloc (by simp<;>omega) _)) fun hS=> ?_;clear hK K;refine bB 8 fun K hK=> ?_;refine fE (by rfl) (.tmp 55) (.tmp 61) 111 (by rfl) w.heap.size 146 i _ 3 32 Tryz.underlying111 HI.o.1 HI.o.2.1 HI.o.2.2.1 HI.o.2.2.2 rfl (by omega) _ 0 [] (by rfl) (gI (jQ w _ _).1 acC) _ k _ ((E.take k).flatMap fZ) (by rfl) (qV.o _ ((acD.drew.alloc acC _).alloc (by simp<;>omega) _)).1 (nO _) (by unfold maxLen;omega) (by omega) (by simp<;>omega) ?_;intro A1 c1 u1 hown1 hb1 hg1;have hB1:Below w.heap.size w u1:=((acD.drew.alloc acC _).alloc (by simp<;>omega) _).trans hb1;have hrow:=(lS (vs:=fZ (d,nm,id)) (jQ w (.cells #[] 146) (.cells (fZ (d,nm,id)).toArray 146)).2 (by simp[fZ,maxLen])).grown hg1 (fun b hb hbw=>by subst hb;simp[Value.ownBlock]);refine bK hK (ji.o _ hB1) fun hS=> ?_;clear hK K;refine bB 14 fun K hK=> ?_;refine aF (by rfl) (.tmp 62) (.tmp 67) 111 (by rfl) w.heap.size 146 i _ 3 32 Tryz.underlying111 HI.o.1 HI.o.2.1 HI.o.2.2.1 HI.o.2.2.2 rfl (by omega) _ _ _ (by rfl) hown1 _ 1 _ (fZ (d,nm,id)) (by rfl) hrow (tu _) (by unfold maxLen;omega) (by omega) hB1.size ?_;intro A2 c2 u2 hown2 hb2;have hB2:Below w.heap.size w u2:=hB1.trans hb2;refine bK hK (ji.o _ hB2) fun hS=> ?_;clear hK K;refine bB 21 fun K hK=> ?_;refine aF (by rfl) (.tmp 68) (.tmp 74) 111 (by rfl) w.heap.size 146 i _ 3 32 Tryz.underlying111 HI.o.1 HI.o.2.1 HI.o.2.2.1 HI.o.2.2.2 rfl (by omega) _ _ _ (by rfl) hown2 _ (n-k) _ ((E.drop k).flatMap fZ) (by rfl) (qV.o _ hB2).2 (nO _) (by unfold maxLen;omega) (by omega) hB2.size ?_;intro A3 c3 u3 hown3 hb3;have hB3:Below w.heap.size w u3:=hB2.trans hb3;refine bK hK (ji.o _ hB3) fun hS=> ?_;clear hK K;refine au 22 hS ?_;refine au 23 hS ?_;refine bB 24 fun K hK=> ?_;go_simp;refine kX hK ?_;clear hS hK K;go_wp2
    all_goals (
     go_end0
     exact wS HADD.o HL.o hkn hB3 (by omega) (by simp) hown3 (by unfold maxLen;omega))
  case wb=>
   go_simp;refine bK hK (ji.o _ (acD.drew.alloc acC _)) fun hS=> ?_;clear hK K;refine bB 1 fun K hK=> ?_;go_simp;refine bK hK (ji.o _ ((acD.drew.alloc acC _).alloc (by simp<;>omega) _)) fun hS=> ?_;clear hK K;refine bB 8 fun K hK=> ?_;refine fE (by rfl) (.tmp 55) (.tmp 61) 111 (by rfl) w.heap.size 146 i _ 3 32 Tryz.underlying111 HI.o.1 HI.o.2.1 HI.o.2.2.1 HI.o.2.2.2 rfl (by omega) _ 0 [] (by rfl) (gI (jQ w _ _).2 (by omega)) _ k _ ((E.take k).flatMap fZ) (by rfl) (qV.o _ ((acD.drew.alloc acC _).alloc (by simp<;>omega) _)).1 (nO _) (by unfold maxLen;omega) (by omega) (by simp<;>omega) ?_;intro A1 c1 u1 hown1 hb1 hg1;have hB1:Below w.heap.size w u1:=((acD.drew.alloc acC _).alloc (by simp<;>omega) _).trans hb1;have hrow:=(lS (vs:=fZ (d,nm,id)) (jQ w (.cells (fZ (d,nm,id)).toArray 146) (.cells #[] 146)).1 (by simp[fZ,maxLen])).grown hg1 (fun b hb hbw=>by subst hb;simp[Value.ownBlock]);refine bK hK (ji.o _ hB1) fun hS=> ?_;clear hK K;refine bB 14 fun K hK=> ?_;refine aF (by rfl) (.tmp 62) (.tmp 67) 111 (by rfl) w.heap.size 146 i _ 3 32 Tryz.underlying111 HI.o.1 HI.o.2.1 HI.o.2.2.1 HI.o.2.2.2 rfl (by omega) _ _ _ (by rfl) hown1 _ 1 _ (fZ (d,nm,id)) (by rfl) hrow (tu _) (by unfold maxLen;omega) (by omega) hB1.size ?_;intro A2 c2 u2 hown2 hb2;have hB2:Below w.heap.size w u2:=hB1.trans hb2;refine bK hK (ji.o _ hB2) fun hS=> ?_;clear hK K;refine bB 21 fun K hK=> ?_;refine aF (by rfl) (.tmp 68) (.tmp 74) 111 (by rfl) w.heap.size 146 i _ 3 32 Tryz.underlying111 HI.o.1 HI.o.2.1 HI.o.2.2.1 HI.o.2.2.2 rfl (by omega) _ _ _ (by rfl) hown2 _ (n-k) _ ((E.drop k).flatMap fZ) (by rfl) (qV.o _ hB2).2 (nO _) (by unfold maxLen;omega) (by omega) hB2.size ?_;intro A3 c3 u3 hown3 hb3;have hB3:Below w.heap.size w u3:=hB2.trans hb3;refine bK hK (ji.o _ hB3) fun hS=> ?_;clear hK K;refine au 22 hS ?_;refine au 23 hS ?_;refine bB 24 fun K hK=> ?_;go_simp;refine kX hK ?_;clear hS hK K;go_wp2
   all_goals (
    go_end0
    exact wS HADD.o HL.o hkn hB3 (by omega) (by simp) hown3 (by unfold maxLen;omega))
theorem Uz(d:Int)(nm:Nm)(id:Int)(w:World)(hc2:w.cell? ⟨r,2,none⟩=some (.slice none 0 0))(hrw:r<w.heap.size)(hfr:w.frozen? ⟨r,2,none⟩=false):
  Calls Tryz.prog 113 #[ptr r,.int .i64 d,.string (strOf nm),.int .i64 id] w (DW w r (su [] d nm id)):=by
 obtain⟨i,hi,hz,h3,h32⟩:=aap Co;have HI:=acA (And.intro hi (And.intro hz (And.intro h3 h32)));have ji:acB (∀w1,Below w.heap.size w w1→w1.cell? ⟨r,2,none⟩=some (.slice none 0 0)∧w1.frozen? ⟨r,2,none⟩=false):=fun w1 hb=>⟨by rw[hb.cell (p:=⟨r,2,none⟩) hrw];exact hc2,by rw[hb.frozen (p:=⟨r,2,none⟩) hrw];exact hfr⟩;have qV:acB (∀w1:World,ah (fun _=>True) w1 none (0*3) []∧ah (fun _=>True) w1 none (0*3) []):=fun w1=>⟨ah.zero _ _ _ rfl rfl,ah.zero _ _ _ rfl rfl⟩;clear hi hz h3 h32;go_enter Tryz.func113,Tryz.ntmps113
 go_upto_block 0 with(fail)
 go_cut [8]from 9 to 53 (fun i wx=>i= .int .i64 0∧w=wx)
 case first=>
  go_wp2_with fail
  go_loop [8] (fun i=>i= .int .i64 0) (fun _=>0)
  case atStart=>rfl
  case round=>
   subst hrel;go_wp2
   go_meet
   exact⟨rfl,rfl⟩
 case rest=>
  obtain⟨rfl,rfl⟩:=hcut;go_wp2;refine qA 24 ((fun w'=>w'.cell? ⟨r,2,none⟩=some (.slice none 0 0)∧w'.frozen? ⟨r,2,none⟩=false)) ?_ fun hS=> ?_
  ·exact ji.o _ acD.drew
  refine au 0 hS ?_;refine au 2 hS ?_;refine au 3 hS ?_;refine au 4 hS ?_;refine au 5 hS ?_;refine au 6 hS ?_;refine au 7 hS ?_;refine au 9 hS ?_;refine au 10 hS ?_;refine au 11 hS ?_;refine au 12 hS ?_;refine au 15 hS ?_;refine au 16 hS ?_;refine au 17 hS ?_;refine au 18 hS ?_;refine au 19 hS ?_;refine au 20 hS ?_;refine pK 1 13 (fun K hK=> ?wa) fun K hK=> ?wb
  case wa=>
   go_simp;refine bK hK (ji.o _ (acD.drew.alloc acC _)) fun hS=> ?_;clear hK K;refine pK 8 13 (fun K hK=> ?waa) fun K hK=> ?wab
   case waa=>
    refine aF (by rfl) (.tmp 55) (.tmp 61) 111 (by rfl) w.heap.size 146 i _ 3 32 Tryz.underlying111 HI.o.1 HI.o.2.1 HI.o.2.2.1 HI.o.2.2.2 rfl (by omega) _ 0 [] (by rfl) (gI (MapKept.heap_alloc w.drew _).1 acC) _ 0 _ [] (by rfl) (qV.o _).1 (fun u hu=>by cases hu) (by unfold maxLen;omega) (by omega) (by simp<;>omega) ?_;intro A1 c1 u1 hown0 hb1;have hB0:Below w.heap.size w u1:=(acD.drew.alloc acC _).trans hb1;refine bK hK (ji.o _ hB0) fun hS=> ?_;clear hK K;refine bB 13 fun K hK=> ?_;go_simp;refine bK hK (ji.o _ (hB0.alloc hB0.size _)) fun hS=> ?_;clear hK K;have hown1:=own_below hown0 (acD.alloc acC (.cells (fZ (d,nm,id)).toArray 146));have hrow:=jY (w:=u1) (fZ (d,nm,id)) 146 (by simp[fZ,maxLen]);have hB1:Below w.heap.size w (u1.alloc (.cells (fZ (d,nm,id)).toArray 146)):=hB0.alloc hB0.size _;refine bB 14 fun K hK=> ?_;refine aF (by rfl) (.tmp 62) (.tmp 67) 111 (by rfl) w.heap.size 146 i _ 3 32 Tryz.underlying111 HI.o.1 HI.o.2.1 HI.o.2.2.1 HI.o.2.2.2 rfl (by omega) _ _ _ (by rfl) hown1 _ 1 _ (fZ (d,nm,id)) (by rfl) hrow (tu _) (by unfold maxLen;omega) (by omega) hB1.size ?_;intro A2 c2 u2 hown2 hb2;have hB2:Below w.heap.size w u2:=hB1.trans hb2;refine bK hK (ji.o _ hB2) fun hS=> ?_;clear hK K;refine bB 21 fun K hK=> ?_;refine aF (by rfl) (.tmp 68) (.tmp 74) 111 (by rfl) w.heap.size 146 i _ 3 32 Tryz.underlying111 HI.o.1 HI.o.2.1 HI.o.2.2.1 HI.o.2.2.2 rfl (by omega) _ _ _ (by rfl) hown2 _ 0 _ [] (by rfl) (qV.o _).2 (fun u hu=>by cases hu) (by unfold maxLen;omega) (by omega) hB2.size ?_;intro A3 c3 u3 hown3 hb3;have hB3:Below w.heap.size w u3:=hB2.trans hb3;refine bK hK (ji.o _ hB3) fun hS=> ?_;clear hK K;refine au 22 hS ?_;refine au 23 hS ?_;refine bB 24 fun K hK=> ?_;go_simp;refine kX hK ?_;clear hS hK K;go_wp2
    all_goals (
     go_end0
     exact wS (E:=[]) (k:=0) (m:=0) (n:=0) rfl rfl acC hB3 rfl rfl hown3 (by unfold maxLen;omega))
   case wab=>
    go_simp;refine bK hK (ji.o _ ((acD.drew.alloc acC _).alloc (by simp<;>omega) _)) fun hS=> ?_;clear hK K;refine bB 8 fun K hK=> ?_;refine fE (by rfl) (.tmp 55) (.tmp 61) 111 (by rfl) w.heap.size 146 i _ 3 32 Tryz.underlying111 HI.o.1 HI.o.2.1 HI.o.2.2.1 HI.o.2.2.2 rfl (by omega) _ 0 [] (by rfl) (gI (jQ w _ _).1 acC) _ 0 _ [] (by rfl) (qV.o _).1 (fun u hu=>by cases hu) (by unfold maxLen;omega) (by omega) (by simp<;>omega) ?_;intro A1 c1 u1 hown1 hb1 hg1;have hB1:Below w.heap.size w u1:=((acD.drew.alloc acC _).alloc (by simp<;>omega) _).trans hb1;have hrow:=(lS (vs:=fZ (d,nm,id)) (jQ w (.cells #[] 146) (.cells (fZ (d,nm,id)).toArray 146)).2 (by simp[fZ,maxLen])).grown hg1 (fun b hb hbw=>by subst hb;simp[Value.ownBlock]);refine bK hK (ji.o _ hB1) fun hS=> ?_;clear hK K;refine bB 14 fun K hK=> ?_;refine aF (by rfl) (.tmp 62) (.tmp 67) 111 (by rfl) w.heap.size 146 i _ 3 32 Tryz.underlying111 HI.o.1 HI.o.2.1 HI.o.2.2.1 HI.o.2.2.2 rfl (by omega) _ _ _ (by rfl) hown1 _ 1 _ (fZ (d,nm,id)) (by rfl) hrow (tu _) (by unfold maxLen;omega) (by omega) hB1.size ?_;intro A2 c2 u2 hown2 hb2;have hB2:Below w.heap.size w u2:=hB1.trans hb2;refine bK hK (ji.o _ hB2) fun hS=> ?_;clear hK K;refine bB 21 fun K hK=> ?_;refine aF (by rfl) (.tmp 68) (.tmp 74) 111 (by rfl) w.heap.size 146 i _ 3 32 Tryz.underlying111 HI.o.1 HI.o.2.1 HI.o.2.2.1 HI.o.2.2.2 rfl (by omega) _ _ _ (by rfl) hown2 _ 0 _ [] (by rfl) (qV.o _).2 (fun u hu=>by cases hu) (by unfold maxLen;omega) (by omega) hB2.size ?_;intro A3 c3 u3 hown3 hb3;have hB3:Below w.heap.size w u3:=hB2.trans hb3;refine bK hK (ji.o _ hB3) fun hS=> ?_;clear hK K;refine au 22 hS ?_;refine au 23 hS ?_;refine bB 24 fun K hK=> ?_;go_simp;refine kX hK ?_;clear hS hK K;go_wp2
    all_goals (
     go_end0
     exact wS (E:=[]) (k:=0) (m:=0) (n:=0) rfl rfl acC hB3 rfl rfl hown3 (by unfold maxLen;omega))
  case wb=>
   go_simp;refine bK hK (ji.o _ (acD.drew.alloc acC _)) fun hS=> ?_;clear hK K;refine bB 1 fun K hK=> ?_;go_simp;refine bK hK (ji.o _ ((acD.drew.alloc acC _).alloc (by simp<;>omega) _)) fun hS=> ?_;clear hK K;refine bB 8 fun K hK=> ?_;refine fE (by rfl) (.tmp 55) (.tmp 61) 111 (by rfl) w.heap.size 146 i _ 3 32 Tryz.underlying111 HI.o.1 HI.o.2.1 HI.o.2.2.1 HI.o.2.2.2 rfl (by omega) _ 0 [] (by rfl) (gI (jQ w _ _).2 (by omega)) _ 0 _ [] (by rfl) (qV.o _).1 (fun u hu=>by cases hu) (by unfold maxLen;omega) (by omega) (by simp<;>omega) ?_;intro A1 c1 u1 hown1 hb1 hg1;have hB1:Below w.heap.size w u1:=((acD.drew.alloc acC _).alloc (by simp<;>omega) _).trans hb1;have hrow:=(lS (vs:=fZ (d,nm,id)) (jQ w (.cells (fZ (d,nm,id)).toArray 146) (.cells #[] 146)).1 (by simp[fZ,maxLen])).grown hg1 (fun b hb hbw=>by subst hb;simp[Value.ownBlock]);refine bK hK (ji.o _ hB1) fun hS=> ?_;clear hK K;refine bB 14 fun K hK=> ?_;refine aF (by rfl) (.tmp 62) (.tmp 67) 111 (by rfl) w.heap.size 146 i _ 3 32 Tryz.underlying111 HI.o.1 HI.o.2.1 HI.o.2.2.1 HI.o.2.2.2 rfl (by omega) _ _ _ (by rfl) hown1 _ 1 _ (fZ (d,nm,id)) (by rfl) hrow (tu _) (by unfold maxLen;omega) (by omega) hB1.size ?_;intro A2 c2 u2 hown2 hb2;have hB2:Below w.heap.size w u2:=hB1.trans hb2;refine bK hK (ji.o _ hB2) fun hS=> ?_;clear hK K;refine bB 21 fun K hK=> ?_;refine aF (by rfl) (.tmp 68) (.tmp 74) 111 (by rfl) w.heap.size 146 i _ 3 32 Tryz.underlying111 HI.o.1 HI.o.2.1 HI.o.2.2.1 HI.o.2.2.2 rfl (by omega) _ _ _ (by rfl) hown2 _ 0 _ [] (by rfl) (qV.o _).2 (fun u hu=>by cases hu) (by unfold maxLen;omega) (by omega) hB2.size ?_;intro A3 c3 u3 hown3 hb3;have hB3:Below w.heap.size w u3:=hB2.trans hb3;refine bK hK (ji.o _ hB3) fun hS=> ?_;clear hK K;refine au 22 hS ?_;refine au 23 hS ?_;refine bB 24 fun K hK=> ?_;go_simp;refine kX hK ?_;clear hS hK K;go_wp2
   all_goals (
    go_end0
    exact wS (E:=[]) (k:=0) (m:=0) (n:=0) rfl rfl acC hB3 rfl rfl hown3 (by unfold maxLen;omega))
theorem XP(d:Int)(nm:Nm)(id:Int)(w:World)(h:iP F w r T D E)(XO:E.length≤1000000):
  Calls Tryz.prog 113 #[ptr r,.int .i64 d,.string (strOf nm),.int .i64 id] w (eB F w r T D (su E d nm id) (.tuple #[])):=by
 obtain⟨aN,cN,aD,cD,aE,cE,h1,h2,h3,h4,h8,h9,h10,h11⟩:=h.head;have hc:w.cell? ⟨r,2,none⟩=some (.slice aE E.length cE):=by simp[World.cell?,h1]
 rcases h11 with⟨rfl,rfl⟩|⟨b,rfl⟩
 ·have hE:E=[]:=aai (by omega);rw[hE]at hc⊢;exact(Uz d nm id w hc (h.low r h.own) (ah.frozen h1 rfl)).mono fun e w' hs=>DX h hs
 ·exact(Qh d nm id w b E.length cE hc (h.low r h.own) (ah.frozen h1 rfl) rfl h4 XO h10).mono fun e w' hs=>DX h hs
end
theorem Kc{F:Nat→Prop}{w w1:World}{b off n c k s:Nat}{vs:List Value}(h:ah F w (some ⟨b,off,none⟩) (n*s) vs)(hk:k<n)(hb:Below w.heap.size w w1):
  ah F w1 (some ⟨b,off,none⟩) (k*s) (vs.take (k*s))∧ah F w1 (if c=k+1 then some ⟨b,off,none⟩else some ⟨b,off+(k+1)*s,none⟩) ((n-(k+1))*s) (vs.drop ((k+1)*s))∨c<n:=by
 by_cases hcn:c<n
 ·exact .inr hcn
 ·left;have h1:=h.below hb acC;have h2:=h1.take (k*s);have hks:k*s≤n*s:=acf s (by omega);rw[abv hks]at h2;have h4:=h1.drop ((k+1)*s);rw[←Nat.sub_mul]at h4;refine⟨h2,?_⟩;by_cases hce:c=k+1
  ·rw[if_pos hce];have hl:=h.length;have hkn:k+1=n:=by omega
   exact ah.zero _ _ _ (by rw[show n-(k+1)=0 by omega,abE]) (by rw[hkn];exact aaD (by omega))
  ·rw[if_neg hce];exact h4
theorem jy{w:World}{r:Nat}{x0 x1 x2:Value}(h1:w.heap[r]? =some (.cells #[x0,x1,x2] 113 (0,0))):w.cell? ⟨r,0,none⟩=some x0∧w.cell? ⟨r,1,none⟩=some x1∧w.cell? ⟨r,2,none⟩=some x2∧∀j,w.frozen? ⟨r,j,none⟩=false:=by
 refine⟨?_,?_,?_,fun j=> ?_⟩<;>simp[World.cell?,World.frozen?,h1]
section
variable{F:Nat→Prop}{r:Nat}{T:aL}{D:List (List UInt8)}{E:List kJ}
theorem Qi(id:Int)(k:Nat)(w:World)(h:iP F w r T D E)(hl:T.length≤64)(hD:D.length=T.length)(hi:rW (rH id) T=k)(hk:k<T.length):
  Calls Tryz.prog 116 #[ptr r,.int .i64 id] w (eB F w r (T.take k++T.drop (k+1)) (D.take k++D.drop (k+1)) E (.tuple #[])):=by
 obtain⟨i6,a6,b6,s6,d6⟩:=aap nodeInfo;have lT:=acA (And.intro a6 (And.intro b6 (And.intro s6 d6)));obtain⟨i1,a1,b1,s1,d1⟩:=aap zA;have HI1:=acA (And.intro a1 (And.intro b1 (And.intro s1 d1)));have HAT:=acA (zx id w h hl);rw[hi]at HAT;have HH:=acA h;obtain⟨aN,cN,aD,cD,aE,cE,h1,h2,h3,h4,h8,h9,h10,h11⟩:=h.head;obtain⟨vs,hv,hrow⟩:=h9;obtain⟨bN,oN,rfl,hFN,hbN,-,-⟩:=h8.wide ig rfl (List.getElem?_eq_getElem hk) (by omega);obtain⟨bD,oD,rfl,hFD,hbD,-⟩:=hv.at_ (by omega);have hlv:=hv.length;have hrw:=h.low r h.own;have HE:=acA (Each.cut (F:=Off F r) (w:=w) (vs:=vs) (bs:=D) hrow hlv k (by omega));have uO:=acA (And.intro (fun u hu=>Each.one (F:=Off F r) (w:=w) hrow hlv u (List.mem_of_mem_take hu):∀u∈vs.take k,u.oneCell'=true) (fun u hu=>Each.one (F:=Off F r) (w:=w) hrow hlv u (List.mem_of_mem_drop hu):∀u∈vs.drop (k+1),u.oneCell'=true));have hLT:(T.take k++T.drop (k+1)).length=k+(T.length-(k+1)):=by simp;omega
 have hLD:(D.take k++D.drop (k+1)).length=k+(T.length-(k+1)):=by simp;omega
 rw[hD]at h1 h3 hv hlv;generalize hn:T.length=n at*;have Ah:=acA hLT;have HLD:=acA hLD;obtain⟨p0,p1,p2,pf⟩:=jy h1;have Af:=acA h1;have HV:=acA hv;have Ch:acB (∀w1,Below w.heap.size w w1→w1.cell? ⟨r,0,none⟩=some (.slice (some ⟨bN,oN,none⟩) n cN)∧w1.frozen? ⟨r,0,none⟩=false):=fun w1 hb=>⟨by rw[hb.cell (p:=⟨r,0,none⟩) hrw];exact p0,by rw[hb.frozen (p:=⟨r,0,none⟩) hrw];exact pf 0⟩;have lg:acB (∀w1,Below w.heap.size w w1→ah (Off F r) w1 (some ⟨bN,oN,none⟩) (k*6) ((T.take k).flatMap dV)∧ah (Off F r) w1 (if cN=k+1 then some ⟨bN,oN,none⟩else some ⟨bN,oN+(k+1)*6,none⟩) ((n-(k+1))*6) ((T.drop (k+1)).flatMap dV)):=fun w1 hb=>by
  have:=(Kc (c:=cN) h8 hk hb).resolve_right (by omega)
  rwa [qR dV 6 ig,qU dV 6 ig]at this
 have HCD:acB (n≤cD):=h3;have i0:(0:Int)≤k:=by omega
 have i1':(k:Int)≤cN:=by omega
 have i2:(k:Int)+1≤n:=by omega
 have i3:(0:Int)≤(k:Int)+1:=by omega
 have i4:(n:Int)≤cN:=by omega
 have i5:(k:Int)≤cD:=by omega
 have i6':(n:Int)≤cD:=by omega
 have e1:IntKind.i64.wrap ((k:Int)+1)=(k:Int)+1:=aak _ (by omega);clear a6 b6 s6 d6 a1 b1 s1 d1 hrow hv hLT hLD h1 h8 h10 h11 hD hi hn h hlv p0 p1 p2 pf;go_enter Tryz.func116,Tryz.ntmps116;go_wp2_with fail;refine HAT.o.mono ?_;rintro e w' ⟨rfl,rfl⟩;go_upto_region 1 with(fail)
 go_cut [] (fun wx=>cu w r (.slice (some ⟨bD,oD,none⟩) n cD) (.slice aE E.length cE) (T.take k++T.drop (k+1)) wx)
 case first=>
  go_wp2;refine qA 19 ((fun w'=>w'.cell? ⟨r,0,none⟩=some (.slice (some ⟨bN,oN,none⟩) n cN)∧w'.frozen? ⟨r,0,none⟩=false)) ?_ fun hS=> ?_
  ·exact Ch.o _ acD.drew
  refine au 0 hS ?_;refine au 2 hS ?_;refine au 3 hS ?_;refine au 4 hS ?_;refine au 5 hS ?_;refine au 6 hS ?_;refine au 7 hS ?_;refine au 9 hS ?_;refine au 10 hS ?_;refine au 11 hS ?_;refine au 12 hS ?_;refine au 13 hS ?_;refine au 14 hS ?_;refine au 15 hS ?_;refine bB 1 fun K hK=> ?_;go_simp;refine bK hK (Ch.o _ (acD.drew.alloc acC _)) fun hS=> ?_;clear hK K;refine bB 8 fun K hK=> ?_;refine aF (by rfl) (.tmp 9) (.tmp 15) 110 (by rfl) w.heap.size 39 _ _ 6 48 Tryz.underlying110 lT.o.1 lT.o.2.1 lT.o.2.2.1 lT.o.2.2.2 rfl (by omega) _ 0 [] (by rfl) (gI (MapKept.heap_alloc w.drew _).1 acC) _ k _ ((T.take k).flatMap dV) (by rfl) (lg.o _ (acD.drew.alloc acC _)).1 (iV _) (by unfold maxLen;omega) (by omega) (by simp) ?_;intro A1 c1 u1 hown1 hb1;have hB1:Below w.heap.size w u1:=(acD.drew.alloc acC _).trans hb1;refine bK hK (Ch.o _ hB1) fun hS=> ?_;clear hK K;refine bB 16 fun K hK=> ?_;refine aF (by rfl) (.tmp 16) (.tmp 23) 110 (by rfl) w.heap.size 39 _ _ 6 48 Tryz.underlying110 lT.o.1 lT.o.2.1 lT.o.2.2.1 lT.o.2.2.2 rfl (by omega) _ _ _ (by rfl) hown1 _ (n-(k+1)) _ ((T.drop (k+1)).flatMap dV) (by rfl) (lg.o _ hB1).2 (iV _) (by unfold maxLen;omega) (by omega) hB1.size ?_;intro A2 c2 u2 hown2 hb2;have hB2:Below w.heap.size w u2:=hB1.trans hb2;refine bK hK (Ch.o _ hB2) fun hS=> ?_;clear hK K;refine au 17 hS ?_;refine au 18 hS ?_;refine bB 19 fun K hK=> ?_;go_simp;refine kX hK ?_;clear hS hK K;go_wp2_with fail
  all_goals (
   go_meet
   have hl:=Ah.o;have e5:0+k+(n-(k+1))=(T.take k++T.drop (k+1)).length:=by omega
   obtain⟨-,hcc,-,hrow2⟩:=qw (w:=w) hown2 (by unfold maxLen;omega) acC;rw[List.nil_append,←aaX,e5]at hrow2;rw[e5]at hcc;have:=cu.mk_ hrw Af.o hB2 hcc hrow2 (nA hown2);rw[hl]at this;exact this)
 case rest=>
  obtain⟨w1,rfl⟩:∃w1:World,w1=wc:=⟨_,rfl⟩;have HM:=acA hcut;obtain⟨hK,-,aM,cM,h5,-,-,-⟩:=hcut;obtain⟨p0,p1,p2,pf⟩:=jy h5;have hs1:=hK.size;have hr1:r<w1.heap.size:=by omega
  have hv1:ah (Off (Grow F w w1) r) w1 (some ⟨bD,oD,none⟩) (n*1) vs:=by rw[Nat.mul_one];exact uq hK HV.o
  have HKW:=acA hK;have yF:acB (∀w2,Below w1.heap.size w1 w2→w2.cell? ⟨r,1,none⟩=some (.slice (some ⟨bD,oD,none⟩) n cD)∧w2.frozen? ⟨r,1,none⟩=false):=fun w2 hb=>⟨by rw[hb.cell (p:=⟨r,1,none⟩) hr1];exact p1,by rw[hb.frozen (p:=⟨r,1,none⟩) hr1];exact pf 1⟩;have jI:acB (∀w2,Below w1.heap.size w1 w2→ah (Off (Grow F w w1) r) w2 (some ⟨bD,oD,none⟩) (k*1) (vs.take k)∧ah (Off (Grow F w w1) r) w2 (if cD=k+1 then some ⟨bD,oD,none⟩else some ⟨bD,oD+(k+1),none⟩) ((n-(k+1))*1) (vs.drop (k+1))):=fun w2 hb=>by
   have:=(Kc (c:=cD) hv1 hk hb).resolve_right (by have:=HCD.o;omega);rw[Nat.mul_one,Nat.mul_one]at this;simpa only[Nat.mul_one]using this
  clear hK h5 p0 p1 p2 pf hv1;go_wp2;refine qA 19 ((fun w'=>w'.cell? ⟨r,1,none⟩=some (.slice (some ⟨bD,oD,none⟩) n cD)∧w'.frozen? ⟨r,1,none⟩=false)) ?_ fun hS=> ?_
  ·exact yF.o _ acD.drew
  refine au 0 hS ?_;refine au 2 hS ?_;refine au 3 hS ?_;refine au 4 hS ?_;refine au 5 hS ?_;refine au 6 hS ?_;refine au 7 hS ?_;refine au 9 hS ?_;refine au 10 hS ?_;refine au 11 hS ?_;refine au 12 hS ?_;refine au 13 hS ?_;refine au 14 hS ?_;refine au 15 hS ?_;refine bB 1 fun K hK=> ?_;go_simp;refine bK hK (yF.o _ (acD.drew.alloc acC _)) fun hS=> ?_;clear hK K;refine bB 8 fun K hK=> ?_;refine aF (by rfl) (.tmp 28) (.tmp 34) 46 (by rfl) w1.heap.size 28 _ _ 1 24 Tryz.underlying46 HI1.o.1 HI1.o.2.1 HI1.o.2.2.1 HI1.o.2.2.2 rfl (by omega) _ 0 [] (by rfl) (gI (MapKept.heap_alloc w1.drew _).1 acC) _ k _ (vs.take k) (by rfl) (jI.o _ (acD.drew.alloc acC _)).1 uO.o.1 (by unfold maxLen;omega) (by omega) (by simp) ?_;intro A1 c1 u1 hown1 hb1;have hB1:Below w1.heap.size w1 u1:=(acD.drew.alloc acC _).trans hb1;refine bK hK (yF.o _ hB1) fun hS=> ?_;clear hK K;refine bB 16 fun K hK=> ?_;refine aF (by rfl) (.tmp 35) (.tmp 42) 46 (by rfl) w1.heap.size 28 _ _ 1 24 Tryz.underlying46 HI1.o.1 HI1.o.2.1 HI1.o.2.2.1 HI1.o.2.2.2 rfl (by omega) _ _ _ (by rfl) hown1 _ (n-(k+1)) _ (vs.drop (k+1)) (by rfl) (jI.o _ hB1).2 uO.o.2 (by unfold maxLen;omega) (by omega) hB1.size ?_;intro A2 c2 u2 hown2 hb2;have hB2:Below w1.heap.size w1 u2:=hB1.trans hb2;refine bK hK (yF.o _ hB2) fun hS=> ?_;clear hK K;refine au 17 hS ?_;refine au 18 hS ?_;refine bB 19 fun K hK=> ?_;go_simp;refine kX hK ?_;clear hS hK K;go_wp2
  all_goals (
   go_end0
   have hl:=HLD.o;have e5:0+k+(n-(k+1))=(D.take k++D.drop (k+1)).length:=by omega
   obtain⟨-,hcc,-,hrow2⟩:=qw (w:=w) hown2 (by unfold maxLen;omega) hs1;rw[List.nil_append,Nat.mul_one,e5]at hrow2;rw[e5]at hcc;have:=iP.F3 HH.o Af.o HM.o hB2 hcc hrow2 (HE.o.move (by have:=hB2.size;omega) fun b hb hbw=>⟨⟨.inl hb.1,hb.2⟩,(hB2.block b (by omega)).trans (HKW.o.block b hbw hb.2)⟩) (.tuple #[]);rw[hl]at this;exact this)
end
theorem cu.facts{w wx:World}{r:Nat}{x1 x2:Value}{T:aL}(h:cu w r x1 x2 T wx){k:Nat}{q:Int×bP}(hq:T[k]? =some q):∃g off c,wx.cell? ⟨r,0,none⟩=some (.slice (some ⟨g,off,none⟩) T.length c)∧wx.cell? ⟨r,1,none⟩=some x1∧wx.cell? ⟨r,2,none⟩=some x2∧T.length≤c∧(∀j,wx.frozen? ⟨r,j,none⟩=false)∧g≠r∧w.heap.size≤g∧g<wx.heap.size∧r<wx.heap.size∧(∀j,wx.frozen? ⟨g,j,none⟩=false)∧
  (wx.cell? ⟨g,off+k*6,none⟩=some (.int .i64 q.1)∧wx.cell? ⟨g,off+k*6+1,none⟩=some (.int .i64 q.2.kind)∧wx.cell? ⟨g,off+k*6+2,none⟩=some (.int .i64 q.2.links)∧wx.cell? ⟨g,off+k*6+3,none⟩=some (.int .i64 q.2.b.length)∧wx.cell? ⟨g,off+k*6+4,none⟩=some (.int .u64 q.2.aA)∧wx.cell? ⟨g,off+k*6+5,none⟩=some (.bool q.2.closed)):=by
 obtain⟨hK,hr,a,c,h2,h3,h4,hp⟩:=h;obtain⟨g,off,rfl,hF,hb,hi,hc⟩:=h4.wide ig rfl hq (by omega);obtain⟨p0,p1,p2,pf⟩:=jy h2;have:=hF.1;have hs:=hK.size;exact⟨g,off,c,p0,p1,p2,h3,pf,by omega,hF.1,hb,by omega,hp.frozen,hc 0 (by omega),hc 1 (by omega),hc 2 (by omega),hc 3 (by omega),hc 4 (by omega),hc 5 (by omega)⟩
section
variable{F:Nat→Prop}{r:Nat}{T:aL}{D:List (List UInt8)}{E:List kJ}
theorem MG(id AL:Int)(k:Nat)(q:Int×bP)(w:World)(h:iP F w r T D E)(hl:T.length≤64)(hi:rW (rH id) T=k)(hq:T[k]? =some q)(hb0: -1≤AL∧AL≤1)(hl0:0≤q.2.links∧q.2.links≤64):
  Calls Tryz.prog 114 #[ptr r,.int .i64 id,.int .i64 AL] w (eB F w r (T.set k (q.1,{q.2 with links:=q.2.links+AL})) D E (.tuple #[])):=by
 obtain⟨i6,a6,b6,s6,d6⟩:=aap nodeInfo;have lT:=acA (And.intro a6 (And.intro b6 (And.intro s6 d6)));have hk:k<T.length:=(aae.1 hq).1;have HAT:=acA (zx id w h hl);rw[hi]at HAT;have HH:=acA h;have HQ:=acA hq;obtain⟨aN,cN,aD,cD,aE,cE,h1,h2,h3,h4,h8,h9,h10,h11⟩:=h.head;obtain⟨bN,oN,rfl,hFN,hbN,-,-⟩:=h8.wide ig rfl hq (by omega);have hrw:=h.low r h.own;obtain⟨p0,p1,p2,pf⟩:=jy h1;have Af:=acA h1;have Cn:=acA h8;obtain⟨n,hn⟩:∃n,n=T.length:=⟨_,rfl⟩;rw[←hn]at p0 hl hk h2 Cn;have lG:=acA hn;have hf0:=pf 0;have hfp:=hFN.2;have i0:(0:Int)≤k:=by omega
 have i2:(k:Int)<n:=by omega
 have e1:IntKind.i64.wrap (q.2.links+AL)=q.2.links+AL:=aak _ (by omega);clear a6 b6 s6 d6 h1 h8 h9 h10 h11 hi h hq hn p1 p2 pf hFN;go_enter Tryz.func114,Tryz.ntmps114;go_wp2_with fail;refine HAT.o.mono ?_;rintro e w' ⟨rfl,rfl⟩;go_upto_region 1 with(fail)
 go_cut [] (fun wx=>cu w r (.slice aD D.length cD) (.slice aE E.length cE) T wx)
 case first=>
  go_wp2_with ((at_builtin;refine iq rfl _ _ 110 rfl w.heap.size 39 _ _ 6 48 Tryz.underlying110 lT.o.1 lT.o.2.1 lT.o.2.2.1 lT.o.2.2.2 rfl (by omega) _ 0 [] rfl (gI (MapKept.heap_alloc w _).1 acC) _ n _ (T.flatMap dV) rfl (Cn.o.below (acD.alloc acC _) acC) (iV _) (by unfold maxLen;omega) (by omega) (by simp) ?_;intro A1 c1 w1 hown1 hb1;have hB1:=((Below.refl w.heap.size w).alloc acC _).trans hb1;have hf1:w1.frozen? ⟨r,0,none⟩=false:=(hB1.frozen (p:=⟨r,0,none⟩) hrw).trans hf0;have hc1:=(hB1.cell (p:=⟨r,0,none⟩) hrw).trans p0))
  go_meet
  obtain⟨-,hcc,-,hrow2⟩:=qw (w:=w) hown1 (by unfold maxLen;omega) acC;have hn:=lG.o;rw[List.nil_append,Nat.zero_add,hn]at hrow2;rw[Nat.zero_add,hn]at hcc;have:=cu.mk_ hrw Af.o hB1 hcc hrow2 (nA hown1);rw[←hn]at this;exact this
 case rest=>
  obtain⟨w1,rfl⟩:∃w1:World,w1=wc:=⟨_,rfl⟩;obtain⟨g,off,c,q0,-,-,hlc,qf,hgr,hg1,hg2,hr1,gf,c0,-,c2,-,-,-⟩:=hcut.facts HQ.o;rw[←lG.o]at q0;have Rs:=gf (off+k*6+2);have HM:=acA hcut;have K6:=acA q0;clear hcut c0 qf gf hlc;go_wp2;refine qA 17 ((fun w'=>w'.cell? ⟨r,0,none⟩=some (.slice (some ⟨g,off,none⟩) n c)∧w'.cell? ⟨g,off+k*6+2,none⟩=some (.int .i64 q.2.links)∧w'.frozen? ⟨g,off+k*6+2,none⟩=false)) ?_ fun hS=> ?_
  ·exact⟨q0,c2,Rs⟩
  refine au 0 hS ?_;refine au 1 hS ?_;refine au 2 hS ?_;refine au 3 hS ?_;refine au 4 hS ?_;refine au 5 hS ?_;refine au 6 hS ?_;refine au 7 hS ?_;refine au 8 hS ?_;refine au 9 hS ?_;refine au 10 hS ?_;refine au 11 hS ?_;refine au 12 hS ?_;refine au 13 hS ?_;refine au 14 hS ?_;refine au 15 hS ?_;refine au 16 hS ?_;refine bB 17 fun K hK=> ?_;go_simp;refine kX hK ?_;clear hS hK K;go_wp2
  go_end0
  have h0:=K6.o;rw[lG.o]at h0;have:=iP.uw HH.o Af.o (cu.f_ HM.o h0 (k:=k) (j:=2) (q':=(q.1,{q.2 with links:=q.2.links+AL})) (v:= .int .i64 (q.2.links+AL)) HQ.o (by omega) rfl) (.tuple #[]);rw[←Nat.add_assoc]at this;exact this.then_ HH.o.low acD.drew
end
structure vQ(T:aL):Prop where
 sorted:aT lI T
 names:∀q∈T,aT bytesBefore q.2.names
 len:T.length≤64
 few:(aX T).length≤5000
theorem vQ.of{T:aL}(h:dG T):vQ T:=⟨h.sorted,fun q hq=>(h.each _ _ (cK fC h.sorted hq)).sorted,h.len,by have:=jw h;omega⟩
theorem DY{T:aL}{d:Int}{f:bP→bP}{q:Int×bP}(h:q∈bq d f T):q∈T∨∃p∈T,p.1=d∧q=(p.1,f p.2):=by
 unfold bq at h;obtain⟨p,hp,e⟩:=List.mem_map.1 h;by_cases hd:p.1=d
 ·rw[if_pos hd]at e;exact .inr ⟨p,hp,hd,e.symm⟩
 ·rw[if_neg hd]at e;exact .inl (e▸hp)
theorem vQ.cut{T:aL}(h:vQ T)(d:Int)(n:Nm):vQ (aG T d n):=by
 refine⟨ng _ _ h.sorted,fun q hq=> ?_,by unfold aG;rw[jd];exact h.len,?_⟩
 ·rcases DY hq with h1|⟨p,hp,_,rfl⟩
  ·exact h.names q h1
  ·exact(h.names p hp).bS _
 ·rw[←DT];exact Nat.le_trans (aaY _ _) h.few
theorem vQ.bq{T:aL}(h:vQ T)(d:Int){f:bP→bP}(hf:∀x,(f x).names=x.names):vQ (Go.Proofs.YtjnhnlabpccgjaaGreatDoor.bq d f T):=by
 refine⟨ng _ _ h.sorted,fun q hq=> ?_,by rw[jd];exact h.len,by rw[ow hf];exact h.few⟩;rcases DY hq with h1|⟨p,hp,_,rfl⟩
 ·exact h.names q h1
 ·show aT bytesBefore (f p.2).names;rw[hf];exact h.names p hp
theorem Ke(E:List kJ)(d:Int)(nm:Nm)(id:Int):(su E d nm id).length=E.length+1:=by
 unfold su;have:=aaT List.length (List.takeWhile_append_dropWhile (p:=ny d nm) (l:=E));rw[List.length_append]at this;rw[List.length_append,List.length_cons];omega
theorem vQ.get{T:aL}(h:vQ T){d:Int}{x:bP}(hx:aj d T=some x):aT bytesBefore x.names:=h.names (d,x) (dU hx)
theorem zB{T:aL}(h:vQ T){id j:Int}{x:bP}{nm:Nm}(hx:aj id T=some x)(hn:aj nm x.names=some j):∃k:Nat,rW (jr id nm) (aX T)=k∧(aX T)[k]? =some (id,nm,j):=by
 have hmem:((id,nm,j):kJ)∈aX T:=(mJ h.sorted).2 ⟨x,hx,dU hn⟩;cases hf:(aX T).findIdx? (jr id nm)with
 |none=>
  rw[abf]at hf;have:=hf _ hmem;simp[jr]at this
 |some k=>
  refine⟨k,by simp[rW,hf],?_⟩;rw[aa5]at hf;obtain⟨hk,hp,_⟩:=hf;have h1:(aX T)[k]? =some (aX T)[k]:=List.getElem?_eq_getElem hk;obtain⟨e,he⟩:∃e,e=(aX T)[k]:=⟨_,rfl⟩;have hm:=abP hk;rw[←he]at h1 hp hm;simp only[jr,aal]at hp;obtain⟨y,hy,hm2⟩:=(mJ h.sorted).1 hm;rw[hp.1,hx]at hy;cases hy;have h3:=cK CF (h.get hx) hm2;rw[hp.2,hn]at h3;rw[h1];congr 1;exact aaO hp.1 (aaO hp.2 (aaK h3).symm)
theorem vQ.put{T:aL}(h:vQ T){d:Int}{x:bP}{n:Nm}(hx:aj d T=some x)(hn:aj n x.names=none)(hf:(aX T).length≤4096)(id:Int):vQ (setName T d n id):=by
 refine⟨ng _ _ h.sorted,fun q hq=> ?_,by unfold setName;rw[jd];exact h.len,?_⟩
 ·rcases DY hq with h1|⟨p,hp,_,rfl⟩
  ·exact h.names q h1
  ·exact(h.names p hp).dW CF _ _
 ·rw[←DR h.sorted hx (h.get hx) hn,Ke];omega
theorem eB.val{F:Nat→Prop}{w w':World}{r:Nat}{T:aL}{D:List (List UInt8)}{E:List kJ}{v:Value}{e:Ending}(h:eB F w r T D E v e w')(v2:Value):eB F w r T D E v2 (.returned v2) w':=⟨rfl,h.2.1,h.2.2⟩
section
variable{F:Nat→Prop}{r:Nat}{T:aL}
theorem Cr(d:Int)(nm:Nm)(j:Int)(x:bP)(w:World)(h:jW F w r T)(hL:vQ T)(hx:aj d T=some x)(hn:aj nm x.names=some j):
  ∃k:Nat,rW (jr d nm) (aX T)=k∧Calls Tryz.prog 115 #[ptr r,.int .i64 k] w (bO F w r (aG T d nm) (.tuple #[])):=by
 obtain⟨k,hk,he⟩:=zB hL hx hn;refine⟨k,hk,(Od k w h (aae.1 he).1 (by have:=hL.few;omega)).mono fun e w' ht=> ?_⟩;have h1:(aX T).take k++(aX T).drop (k+1)=aX (aG T d nm):=by
  rw[yt (p:=jr d nm) he (by simp[jr]) (MC hL.sorted hL.names d nm),DT]
 rw[h1]at ht;refine⟨ht.1,ht.2.1,?_⟩;have:=ht.2.2.names (T':=aG T d nm) (jd _ _ _) (yu (id:=d) (f:=fun x=>{x with names:=bS nm x.names}) (fun _=>rfl) T);unfold aG at this⊢;rw[qD (fun _=>by exact rfl)];exact this
theorem Ct(d:Int)(nm:Nm)(id:Int)(x:bP)(w:World)(h:jW F w r T)(hL:vQ T)(hx:aj d T=some x)(hn:aj nm x.names=none):
  Calls Tryz.prog 113 #[ptr r,.int .i64 d,.string (strOf nm),.int .i64 id] w (bO F w r (setName T d nm id) (.tuple #[])):=by
 refine(XP d nm id w h (by have:=hL.few;omega)).mono fun e w' ht=> ?_;rw[DR hL.sorted hx (hL.get hx) hn]at ht;refine⟨ht.1,ht.2.1,?_⟩;have:=ht.2.2.names (T':=setName T d nm id) (jd _ _ _) (yu (id:=d) (f:=fun x=>{x with names:=dW bytesBefore nm id x.names}) (fun _=>rfl) T);unfold setName at this⊢;rw[qD (fun _=>by exact rfl)];exact this
theorem wT(id AL:Int)(x:bP)(w:World)(h:jW F w r T)(hL:vQ T)(hx:aj id T=some x)(hb0: -1≤AL∧AL≤1)(hl0:0≤x.links∧x.links≤64):
  Calls Tryz.prog 114 #[ptr r,.int .i64 id,.int .i64 AL] w (bO F w r (bq id (fun x=>{x with links:=x.links+AL}) T) (.tuple #[])):=by
 obtain⟨k,hk,hq⟩:=mI hL.sorted hx;refine(MG id AL k (id,x) w h hL.len hk hq hb0 hl0).mono fun e w' ht=> ?_;have h1:=qp (f:=fun x:bP=>{x with links:=x.links+AL}) hL.sorted hq;simp only at h1 ht;rw[h1]at ht;refine⟨ht.1,ht.2.1,?_⟩;rw[qD (fun _=>by exact rfl),ow (fun _=>by exact rfl)];exact ht.2.2
theorem vR(id:Int)(x:bP)(w:World)(h:jW F w r T)(hs:aT lI T)(hl:T.length≤64)(hx:aj id T=some x)(hn:x.names=[]):
  Calls Tryz.prog 116 #[ptr r,.int .i64 id] w (bO F w r (bS id T) (.tuple #[])):=by
 obtain⟨k,hk,hq⟩:=mI hs hx;refine(Qi id k w h hl (by rw[List.length_map]) hk (aae.1 hq).1).mono fun e w' ht=> ?_;have h1:=del_at hs hq;simp only at h1;rw[←aa9,←abB,←List.map_append,h1]at ht;refine⟨ht.1,ht.2.1,?_⟩;rw[J9 (fun q hq2 hid=>by
  have:=cK fC hs hq2;rw[hid,hx]at this;cases this;exact hn)]
 exact ht.2.2
end
end Go.Proofs.YtjnhnlabpccgjaaGreatDoor
