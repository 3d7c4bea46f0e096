/-  -/
import Derived.Test.YtjnhnlabpccgjaaGreatDoorM32
import Derived.Test.YtjnhnlabpccgjaaGreatDoorM33
import Derived.Test.YtjnhnlabpccgjaaGreatDoorM34
import Derived.Test.YtjnhnlabpccgjaaGreatDoorM20
import Derived.Test.YtjnhnlabpccgjaaGreatDoorM22
import Derived.Test.YtjnhnlabpccgjaaGreatDoorM23
import Derived.Deep.MidRow
set_option maxRecDepth 100000
set_option maxHeartbeats 64000000
set_option linter.all false
namespace Go.Proofs.YtjnhnlabpccgjaaGreatDoor
open Go.ChangeShapes Go.WideShapes Go.ChangeAt Go.RowKit
structure RA(t:TypeId)(k:Nat)(w u:World)(v:Value)(n:Nat)(x:List Value)(a:Option Addr)(m:Nat)(y:List Value):Prop where
 o:u.ownsRow w.heap.size t k v n x
 r:ah (fun b=>v.ownBlock≠some b∧b<u.heap.size) u a m y
 b:Below w.heap.size w u
section
variable{t t2:TypeId}{k:Nat}{w u u':World}{v v':Value}{n n':Nat}{x x':List Value}{a:Option Addr}{m:Nat}{y:List Value}
theorem RA.start(w:World):RA t k w w.drew (.slice none 0 0) 0 [] none 0 []:=⟨⟨by simp,.inl ⟨rfl,rfl⟩⟩,ah.nil _ _ _,acv.drew⟩
theorem RA.lit(h:RA t k w u v n x a m y):RA t k w (u.alloc (.cells #[] t)) (.slice (some ⟨u.heap.size,0,none⟩) 0 0) 0 [] a m y:=
 ⟨qo (MapKept.heap_alloc u _).1 h.b.size,h.r.move (by simp) fun b hb hbw=>⟨⟨fun e=>by simp[Value.ownBlock]at e;omega,by simp;omega⟩,abr u _ b hbw⟩,h.b.trans ((wall u _).mono h.b.size)⟩
theorem RA.one(h:RA t k w u v n x a m y)(vs:List Value)(hm:vs.length≤maxLen):RA t k w (u.alloc (.cells vs.toArray t2)) v n x (some ⟨u.heap.size,0,none⟩) vs.length vs:=
 ⟨qC h.o _,(lH (w:=u) vs t2 hm).mono fun b (hb:b=u.heap.size)=>⟨fun e=>by have:=lK h.o b e;omega,by simp;omega⟩,h.b.trans ((wall u _).mono h.b.size)⟩
theorem RA.app(h:RA t k w u v n x a m y)(ho:u'.ownsRow w.heap.size t k v' n' x')(hg:u.grownBy u' v.ownBlock)(hat:v'.ownBlock=v.ownBlock∨v'.ownBlock=some u.heap.size):RA t k w u' v' n' x' a m y:=by
 refine⟨ho,h.r.move hg.size fun b hb hbw=>⟨⟨fun e=> ?_,Nat.lt_of_lt_of_le hbw hg.size⟩,hg.block b hbw fun e=>hb.1 e.symm⟩,below_grown (B:=0) h.b h.o hg⟩;rcases hat with h1|h1
 ·exact hb.1 (h1▸e)
 ·rw[h1]at e;cases e;omega
end
theorem own_le{w:World}{base:Nat}{e:TypeId}{size:Nat}{a:Option Addr}{m c n:Nat}{xs:List Value}(h:w.ownsRow base e size (.slice a m c) n xs):n≤c:=by
 obtain⟨a',c',he,hle⟩:=fM h;cases he;exact hle
section
variable{W w:World}{o:Mark}{i j s r:Nat}{S:lN}{T:aA}
theorem RB{w8 w9:World}{a8 a9:Option Addr}{c8 c9 q:Nat}{vals:List Value}{x:iw}(hM:Marks W o w)(hi:i≠0)(hos:o s=i)(hsw:s<w.heap.size)
  (hO:dU o w vals S.l)(hb:Below w.heap.size w w8)(hK:Keeps (fun b=>b=s) w8 w9)
  (hh:w9.heap[s]? =some (.cells #[.int .i64 (S.next+1),.slice a9 x.hash.length c9,.slice a8 (S.l.length+1) c8] 116 (0,0)))
  (h4:S.l.length+1≤c8)(hrow:ah (fun b=>w.heap.size≤b∧b<w8.heap.size) w8 a8 ((S.l.length+1)*3) (vals++[.int .i64 x.id,.slice a9 x.hash.length c9,ptr q]))
  (h7:x.hash.length≤c9)(h8:ah (fun b=>w.heap.size≤b∧b<w8.heap.size) w8 a9 x.hash.length (x.hash.map bv))(hT:gV o 0 w8 q x.t)(hok:dZ x.t):
  Step o (fun k=>k=i) w o w9∧gB o i w9 s ⟨S.l++[x],S.next+1,x.hash⟩:=by
 have hK0:Keeps (fun b=>b=s) w w9:=(lW hb).trans hK fun x _ hx=>hx;have hst:=Kj (i:=i) hM hos hK0;have hi0:¬(fun j=>j=i) 0:=fun e=>hi e.symm;have hmv:∀(a:Option Addr) (n:Nat) (vs:List Value),ah (fun b=>w.heap.size≤b∧b<w8.heap.size) w8 a n vs→ah (Free o w9) w9 a n vs:=fun a n vs h=>
  Kk (B:=w.heap.size) hM acu (h.move hK.size fun b hb' hbw=>⟨⟨hb'.1,Nat.lt_of_lt_of_le hb'.2 hK.size⟩,hK.block b hbw fun e=>by have:=hb'.1;omega⟩)
 have hrf:gV o 0 w9 q x.t:=by
  obtain⟨F,hR,hr,hF⟩:=hT;refine⟨F,hR.keeps hK fun b hb' e=> ?_,hr,hF⟩;by_cases hbq:b=q
  ·rw[←hbq,e,hos]at hr;exact hi hr
  ·have:=hF b hb' hbq;rw[e,hos]at this;exact hi this
 refine⟨hst,⟨a9,c9,a8,c8,vals++[.int .i64 x.id,.slice a9 x.hash.length c9,ptr q],?_,hos,Nat.lt_of_lt_of_le hsw hK0.size,?_,?_,(hO.step hi0 hst).append ⟨_,[],(aaA _).symm,⟨a9,c9,q,rfl,h7,hmv _ _ _ h8,hrf,hok⟩,rfl⟩,h7,hmv _ _ _ h8⟩⟩
 ·simpa using hh
 ·simpa using h4
 ·simpa using hmv _ _ _ hrow
theorem RD(hS:gB o i w s S)(hR:gV o j w r T)(hM:Marks W o w)(hi:i≠0)(hT:dZ T)(Km:S.l.length≤8)(hla:S.last.length≤64)(hnx:0≤S.next)(hnx':S.next≤1000000000):
  Calls Tryz.prog 50 #[ptr s,ptr r] w fun e w'=>e= .returned (.tuple #[.int .i64 (jB S T).1.1,.int .i64 (jB S T).1.2])∧Step o (fun k=>k=i) w o w'∧gB o i w' s (jB S T).2:=by
 have HS:=acr hS;have HM:=acr hM;obtain⟨la,lc,a,c,vals,h1,h2,h3,h4,h5,h6,h7,h8⟩:=hS.at_;have HH:=acr h1;have D7:=acr h6;have HLR:=acr h8;have SI:=acr h7;have HOS:=acr h2;obtain⟨n,hn⟩:∃n,n=S.l.length:=⟨_,rfl⟩;have HN:=acr hn;obtain⟨m,hm⟩:∃m,m=S.last.length:=⟨_,rfl⟩;have HMM:=acr hm;obtain⟨nx,yj⟩:∃nx,nx=S.next:=⟨_,rfl⟩;have HNX:=acr yj;rw[←hn,←hm,←yj]at h1;rw[←hn]at h4 h5 Km;rw[←hm]at hla;rw[←yj]at hnx hnx';have lg:=acr h5;have EP:acs (∀w',Below w.heap.size w w'→w'.cell? ⟨s,0,none⟩=some (.int .i64 nx)∧w'.cell? ⟨s,1,none⟩=some (.slice la m lc)∧w'.cell? ⟨s,2,none⟩=some (.slice a n c)∧w'.frozen? ⟨s,2,none⟩=false):=fun w' hb=>by
  have hbb:=(hb.block s h3).trans h1;refine⟨?_,?_,?_,?_⟩<;>simp[World.cell?,World.frozen?,hbb]
 obtain⟨q0,q1,q2,qf⟩:=EP.o w acv;by_cases hfull:8≤n
 ·have hd:decide (8≤n)=true:=by simpa using hfull
  have hfi:(8:Int)≤(n:Int):=by omega
  have e1:jB S T=((0,4),S):=by unfold jB;rw[if_pos (by rw[←HN.o];exact hfull)]
  rw[e1];clear hS hM h1 h2 h5 h6 h7 h8 hn hm yj hR e1;go_enter Tryz.func50,Tryz.ntmps50;go_wp2_with fail
  go_ret2
  exact⟨rfl,Step.grow HM.o acv,HS.o⟩
 ·have hd:decide (8≤n)=false:=by simpa using hfull
  have hfi:¬(8:Int)≤(n:Int):=by omega
  obtain⟨sv,hsv⟩:∃sv,sv=dw (aV T):=⟨_,rfl⟩;have e1:jB S T=((nx,0),⟨S.l++[⟨S.next,vE (S.last++sv),aV T⟩],S.next+1,vE (S.last++sv)⟩):=by unfold jB;rw[if_neg (by rw[←HN.o];exact hfull),yj,hsv]
  rw[e1];have YF:=hT.aV;have hsl:=JG YF;rw[←hsv]at hsl;obtain⟨i8,SN⟩:∃i,Tryz.prog.info? 5=some i∧i.zero=some (.int .u8 0)∧i.size=1∧i.bytes=1:=aam (by kernel_rfl);obtain⟨iO,ZY⟩:∃j,Tryz.prog.info? 150=some j∧j.zero=some (.agg #[.int .i64 0,.slice none 0 0,.pointer none])∧j.size=3∧j.bytes=40:=aam (by kernel_rfl);have HI:=acr SN;have uI:=acr ZY;have HTC:=acr YF;have HSVE:=acr hsv;have HCM:=acr (vO hR hM hT);have HIN:=acr hi;clear hS hM h1 h2 h5 h6 h7 h8 hn hm yj hR e1 hT YF SN ZY hsv hi;go_enter Tryz.func50,Tryz.ntmps50;go_wp2_with fail;refine HCM.o.mono ?_;rintro e w1 ⟨q,rfl,hT1,hb1⟩;have HT1:=acr hT1;have HB1:=acr hb1;have hs1:=hb1.size;have Vq:acs (∀u,Below w1.heap.size w1 u→Calls Tryz.prog 35 #[ptr q] u (fB u sv)):=fun u hb=>by
   obtain⟨F,hF,-,-⟩:=hT1.grow hb;have h9:=Gu u hF HTC.o;rw[←HSVE.o]at h9;exact h9
  have HLR1:=acr (HLR.o.below hb1 acu);have HMLR:acs (ah (Free o w) (w1.alloc (.cells #[] 5)) la m (S.last.map bv)):=by
   rw[HMM.o];exact HLR1.o.below (wall w1 _) (by omega)
  obtain⟨z0,z1,z2,zf⟩:=EP.o w1 hb1;have y1:=((wall w1 (.cells #[] 5)).cell (p:=⟨s,1,none⟩) (show s<w1.heap.size by omega)).trans z1;clear hT1 hb1 q0 q1 q2 qf z0 z2 zf;go_wp2_with (at_builtin;go_loud (refine aQ rfl _ _ 28 rfl w1.heap.size 5 i8 _ 1 Tryz.underlying28 HI.o.1 HI.o.2.1 HI.o.2.2.1 HI.o.2.2.2 rfl (.slice (some ⟨w1.heap.size,0,none⟩) 0 0) 0 ([]) rfl (qo (MapKept.heap_alloc w1 _).1 acu) la m lc (S.last.map bv) rfl HMLR.o (dV _) (by unfold maxLen;omega) (by omega) (by simp) ?_;intro A2 c2 u2 hown hg _ hat;simp only[Nat.zero_add,List.nil_append]at hown hat⊢;have E8:=acr hown;have HB2:=acr (dK hg (tY w1) (wall w1 _));clear hown hg hat));refine(Vq.o _ HB2.o).mono ?_;rintro e w3 ⟨a3,c3,rfl,hown3,hb3⟩;have HO23:=acr (own_below E8.o hb3);have HR3:=acr (dN hown3);have HB3:=acr (HB2.o.trans (hb3.mono HB2.o.size));obtain⟨n3,TL⟩:∃n3,n3=sv.length:=⟨_,rfl⟩;rw[←TL]at HR3 hsl⊢;have HN3:=acr TL;clear hown3 hb3 TL;go_wp2_with (at_builtin;go_loud (refine aQ rfl _ _ 28 rfl w1.heap.size 5 i8 _ 1 Tryz.underlying28 HI.o.1 HI.o.2.1 HI.o.2.2.1 HI.o.2.2.2 rfl (.slice A2 m c2) m (S.last.map bv) rfl HO23.o a3 n3 c3 (sv.map bv) rfl HR3.o (dV _) (by unfold maxLen;omega) (by omega) HB3.o.size ?_;intro A4 c4 u4 hown hg _ hat;have Nc:=acr hown;have eT:=acr (dK hg (fun b hb=>dA HO23.o b hb) HB3.o);clear hown hg hat));have Yw:acs (ah (fun x=>w1.heap.size≤x∧x<u4.heap.size) u4 A4 (m+n3) ((S.last++sv).map bv)):=by
   have h9:=(ah.mR Nc.o).2;rw[←List.map_append]at h9;exact h9
  refine(Vk A4 (m+n3) c4 (S.last++sv) u4 Yw.o (by omega)).mono ?_;rintro e w5 ⟨a5,c5,rfl,hown5,hb5⟩;have oM:=acr ((dN hown5).mono (S':=fun b=>w.heap.size≤b∧b<w5.heap.size) fun b hb=>⟨by have:=eT.o.size;omega,hb.2⟩);have YG:acs ((vE (S.last++sv)).length≤c5):=own_le hown5;have iB:=acr (HB1.o.trans ((eT.o.trans (hb5.mono eT.o.size)).mono hs1));have wZ:=acr ((HT1.o.grow (eT.o.trans (hb5.mono eT.o.size))));obtain⟨n5,hn5⟩:∃n5,n5=(vE (S.last++sv)).length:=⟨_,rfl⟩;rw[←hn5]at oM YG⊢;have J6:=acr hn5;have iW:acs (∀u,Below w5.heap.size w5 u→u.cell? ⟨s,0,none⟩=some (.int .i64 nx)∧u.cell? ⟨s,1,none⟩=some (.slice la m lc)∧u.cell? ⟨s,2,none⟩=some (.slice a n c)∧u.frozen? ⟨s,2,none⟩=false):=fun u hb=>EP.o u (iB.o.trans (hb.mono iB.o.size));have qB:acs (∀u,Below w5.heap.size w5 u→ah (Free o w) u a (n*3) vals):=fun u hb=>lg.o.below (iB.o.trans (hb.mono iB.o.size)) acu;have Kn:=acr D7.o.one;have Gh:=acr (RA.start (t:=150) (k:=3) w5);have hsw5:s<w5.heap.size:=by have:=iB.o.size;omega
  have RF:=iB.o.size;have Vr:acs (∀(u u9:World) (A8:Option Addr) (m8 c8:Nat) (av:Option Addr) (mm:Nat) (yy:List Value),RA 150 3 w5 u (.slice A8 m8 c8) (n+1) (vals++[.int .i64 nx,.slice a5 n5 c5,ptr q]) av mm yy→Keeps (fun b=>b=s) u u9→u9.heap[s]? =some (.cells #[.int .i64 (nx+1),.slice a5 n5 c5,.slice A8 (n+1) c8] 116 (0,0))→Step o (fun k=>k=i) w o u9∧gB o i u9 s ⟨S.l++[⟨S.next,vE (S.last++sv),aV T⟩],S.next+1,vE (S.last++sv)⟩):=fun u u9 A8 m8 c8 av mm yy h hK hh=>by
   obtain⟨e8,hcc,-,hrow⟩:=ah.nX h.o (by unfold maxLen;omega);subst e8;have hbu:=iB.o.trans (h.b.mono RF);refine RB (x:=⟨S.next,vE (S.last++sv),aV T⟩) (vals:=vals) (q:=q) (a8:=A8) (c8:=c8) (a9:=a5) (c9:=c5) HM.o HIN.o HOS.o h3 D7.o hbu hK ?_ ?_ ?_ ?_ ?_ (wZ.o.grow h.b) HTC.o
   ·rw[←J6.o,←HNX.o,←HN.o];exact hh
   ·rw[←HN.o];exact hcc
   ·rw[←J6.o,←HNX.o,←HN.o];exact hrow.mono fun b hb=>⟨by omega,hb.2⟩
   ·rw[←J6.o];exact YG.o
   ·rw[←J6.o];exact oM.o.move h.b.size fun b hb hbw=>⟨⟨hb.1,Nat.lt_of_lt_of_le hb.2 h.b.size⟩,h.b.block b hbw⟩
  have HHD:acs (∀u,Below w5.heap.size w5 u→u.heap[s]? =some (.cells #[.int .i64 nx,.slice la m lc,.slice a n c] 116 (0,0))):=fun u hb=>by
   rw[HNX.o,HMM.o,HN.o];exact((iB.o.trans (hb.mono RF)).block s h3).trans HH.o
  clear hown5 hb5 hn5 z1 y1;go_wp2_with fail;refine wQ 18 ((fun w'=>w'.cell? ⟨s,0,none⟩=some (.int .i64 nx)∧w'.cell? ⟨s,1,none⟩=some (.slice la m lc)∧w'.cell? ⟨s,2,none⟩=some (.slice a n c)∧w'.frozen? ⟨s,2,none⟩=false)) ?_ fun hS=> ?_
  ·exact iW.o _ Gh.o.b
  refine aC 0 hS ?_;refine aC 2 hS ?_;refine aC 3 hS ?_;refine aC 4 hS ?_;refine aC 5 hS ?_;refine aC 7 hS ?_;refine aC 8 hS ?_;refine aC 9 hS ?_;refine aC 10 hS ?_;refine aC 11 hS ?_;refine aC 12 hS ?_;refine aC 13 hS ?_;refine mU (rs:=[1,14]) (by kernel_rfl) (by simp) ?_;refine dW.cons (o:= ?o2_0) ?ho2_0 (fun K hK=> ?g1_1) (dW.cons (o:= ?o2_1) ?ho2_1 (fun K hK=> ?g1_14) dW.nil)
  case ho2_0=>simp only[aaq,aas,aai];rfl
  case ho2_1=>simp only[aaq,aas,aai];rfl
  case g1_1=>
   go_simp;have Rj:=Gh.o.lit
   try simp only[Pe]at Rj
   refine bV hK (iW.o _ Rj.b) fun hS=> ?_;clear hK K;refine mU (rs:=[6,14]) (by kernel_rfl) (by simp) ?_;refine dW.cons (o:= ?o5_0) ?ho5_0 (fun K hK=> ?g4_6) (dW.cons (o:= ?o5_1) ?ho5_1 (fun K hK=> ?g4_14) dW.nil)
   case ho5_0=>simp only[aaq,aas,aai];rfl
   case ho5_1=>simp only[aaq,aas,aai];rfl
   case g4_6=>
    refine dF (by rfl) (.tmp 27) (.tmp 31) 114 (by rfl) w5.heap.size 150 iO _ 3 40 Tryz.underlying114 uI.o.1 uI.o.2.1 uI.o.2.2.1 uI.o.2.2.2 rfl (by omega) _ 0 [] (by rfl) Rj.o _ n _ (vals) (by rfl) (qB.o _ Rj.b) Kn.o (by unfold maxLen;omega) (by omega) Rj.b.size ?_;intro A6 c6 u6 hown hgr hat;have hC6:=Rj.app hown hgr hat;simp only[Nat.zero_add,List.nil_append]at hC6⊢;clear hown hgr hat;refine bV hK (iW.o _ hC6.b) fun hS=> ?_;clear hK K;refine bU 14 fun K hK=> ?_;go_simp;have hC7:=hC6.one (t2:=150) [.int .i64 nx,.slice a5 n5 c5,ptr q] (by simp[maxLen])
    try simp only[Pe]at hC7
    refine bV hK (iW.o _ hC7.b) fun hS=> ?_;clear hK K;refine bU 15 fun K hK=> ?_;have Kt:ah _ _ _ (1*3) [.int .i64 nx,.slice a5 n5 c5,ptr q]:=hC7.r;refine dF (by rfl) (.tmp 32) (.tmp 40) 114 (by rfl) w5.heap.size 150 iO _ 3 40 Tryz.underlying114 uI.o.1 uI.o.2.1 uI.o.2.2.1 uI.o.2.2.2 rfl (by omega) _ n vals (by rfl) hC7.o _ 1 _ ([.int .i64 nx,.slice a5 n5 c5,ptr q]) (by rfl) Kt (by simp[Value.oneCell']) (by unfold maxLen;omega) (by omega) hC7.b.size ?_;intro Ed c15 Gv hown hgr hat;have hC8:=hC7.app hown hgr hat;clear hown hgr hat;refine bV hK (iW.o _ hC8.b) fun hS=> ?_;clear hK K;refine aC 16 hS ?_;refine aC 17 hS ?_;refine bU 18 fun K hK=> ?_;go_simp;refine nk hK ?_;clear hS hK K;have Z8:=acr hC8;have Li:(Gv.setCell ⟨s,2,none⟩ (.slice Ed (n+1) c15)).heap[s]? =some (.cells #[.int .i64 nx,.slice la m lc,.slice Ed (n+1) c15] 116 (0,0)):=aO (HHD.o _ Z8.o.b);have HK9:acs (Keeps (fun b=>b=s) Gv (Gv.setCell ⟨s,2,none⟩ (.slice Ed (n+1) c15))):=acr (Keeps.gI Gv ⟨s,2,none⟩ (.slice Ed (n+1) c15));generalize Gv.setCell ⟨s,2,none⟩ (.slice Ed (n+1) c15)=w9 at*;have p1:w9.cell? ⟨s,1,none⟩=some (.slice la m lc):=by simp[World.cell?,Li]
    have f1:w9.frozen? ⟨s,1,none⟩=false:=by simp[World.frozen?,Li]
    have vR:(w9.setCell ⟨s,1,none⟩ (.slice a5 n5 c5)).heap[s]? =some (.cells #[.int .i64 nx,.slice a5 n5 c5,.slice Ed (n+1) c15] 116 (0,0)):=aO Li;have Vs:acs (Keeps (fun b=>b=s) Gv (w9.setCell ⟨s,1,none⟩ (.slice a5 n5 c5))):=HK9.o.trans (Keeps.gI w9 ⟨s,1,none⟩ (.slice a5 n5 c5)) fun x _ hx=>hx;have p0:(w9.setCell ⟨s,1,none⟩ (.slice a5 n5 c5)).cell? ⟨s,0,none⟩=some (.int .i64 nx):=by simp[World.cell?,vR]
    have f0:(w9.setCell ⟨s,1,none⟩ (.slice a5 n5 c5)).frozen? ⟨s,0,none⟩=false:=by simp[World.frozen?,vR]
    have sK:((w9.setCell ⟨s,1,none⟩ (.slice a5 n5 c5)).setCell ⟨s,0,none⟩ (.int .i64 (nx+1))).heap[s]? =some (.cells #[.int .i64 (nx+1),.slice a5 n5 c5,.slice Ed (n+1) c15] 116 (0,0)):=aO vR;have p9:((w9.setCell ⟨s,1,none⟩ (.slice a5 n5 c5)).setCell ⟨s,0,none⟩ (.int .i64 (nx+1))).cell? ⟨s,0,none⟩=some (.int .i64 (nx+1)):=by simp[World.cell?,sK]
    have e1:IntKind.i64.wrap (nx+1)=nx+1:=aag _ (by omega);have e2:IntKind.i64.wrap (nx+1-1)=nx:=by rw[show nx+1-1=nx by omega];exact aag _ (by omega)
    have zD:=acr sK;clear Li vR sK hC8;go_wp2_with fail
    go_ret2
    refine⟨rfl,?_⟩;exact Vr.o _ _ _ _ _ _ _ _ Z8.o (Vs.o.trans (Keeps.gI _ ⟨s,0,none⟩ _) fun x _ hx=>hx) zD.o
   case g4_14=>
    go_simp;have UW:=Rj.one (t2:=150) [.int .i64 nx,.slice a5 n5 c5,ptr q] (by simp[maxLen])
    try simp only[Pe]at UW
    refine bV hK (iW.o _ UW.b) fun hS=> ?_;clear hK K;refine bU 6 fun K hK=> ?_;refine dF (by rfl) (.tmp 27) (.tmp 31) 114 (by rfl) w5.heap.size 150 iO _ 3 40 Tryz.underlying114 uI.o.1 uI.o.2.1 uI.o.2.2.1 uI.o.2.2.2 rfl (by omega) _ 0 [] (by rfl) UW.o _ n _ (vals) (by rfl) (qB.o _ UW.b) Kn.o (by unfold maxLen;omega) (by omega) UW.b.size ?_;intro A6 c6 u6 hown hgr hat;have RG:=UW.app hown hgr hat;simp only[Nat.zero_add,List.nil_append]at RG⊢;clear hown hgr hat;refine bV hK (iW.o _ RG.b) fun hS=> ?_;clear hK K;refine bU 15 fun K hK=> ?_;have Kt:ah _ _ _ (1*3) [.int .i64 nx,.slice a5 n5 c5,ptr q]:=RG.r;refine dF (by rfl) (.tmp 32) (.tmp 40) 114 (by rfl) w5.heap.size 150 iO _ 3 40 Tryz.underlying114 uI.o.1 uI.o.2.1 uI.o.2.2.1 uI.o.2.2.2 rfl (by omega) _ n vals (by rfl) RG.o _ 1 _ ([.int .i64 nx,.slice a5 n5 c5,ptr q]) (by rfl) Kt (by simp[Value.oneCell']) (by unfold maxLen;omega) (by omega) RG.b.size ?_;intro Ed c15 Gv hown hgr hat;have hC11:=RG.app hown hgr hat;clear hown hgr hat;refine bV hK (iW.o _ hC11.b) fun hS=> ?_;clear hK K;refine aC 16 hS ?_;refine aC 17 hS ?_;refine bU 18 fun K hK=> ?_;go_simp;refine nk hK ?_;clear hS hK K;have Z8:=acr hC11;have Li:(Gv.setCell ⟨s,2,none⟩ (.slice Ed (n+1) c15)).heap[s]? =some (.cells #[.int .i64 nx,.slice la m lc,.slice Ed (n+1) c15] 116 (0,0)):=aO (HHD.o _ Z8.o.b);have HK9:acs (Keeps (fun b=>b=s) Gv (Gv.setCell ⟨s,2,none⟩ (.slice Ed (n+1) c15))):=acr (Keeps.gI Gv ⟨s,2,none⟩ (.slice Ed (n+1) c15));generalize Gv.setCell ⟨s,2,none⟩ (.slice Ed (n+1) c15)=w9 at*;have p1:w9.cell? ⟨s,1,none⟩=some (.slice la m lc):=by simp[World.cell?,Li]
    have f1:w9.frozen? ⟨s,1,none⟩=false:=by simp[World.frozen?,Li]
    have vR:(w9.setCell ⟨s,1,none⟩ (.slice a5 n5 c5)).heap[s]? =some (.cells #[.int .i64 nx,.slice a5 n5 c5,.slice Ed (n+1) c15] 116 (0,0)):=aO Li;have Vs:acs (Keeps (fun b=>b=s) Gv (w9.setCell ⟨s,1,none⟩ (.slice a5 n5 c5))):=HK9.o.trans (Keeps.gI w9 ⟨s,1,none⟩ (.slice a5 n5 c5)) fun x _ hx=>hx;have p0:(w9.setCell ⟨s,1,none⟩ (.slice a5 n5 c5)).cell? ⟨s,0,none⟩=some (.int .i64 nx):=by simp[World.cell?,vR]
    have f0:(w9.setCell ⟨s,1,none⟩ (.slice a5 n5 c5)).frozen? ⟨s,0,none⟩=false:=by simp[World.frozen?,vR]
    have sK:((w9.setCell ⟨s,1,none⟩ (.slice a5 n5 c5)).setCell ⟨s,0,none⟩ (.int .i64 (nx+1))).heap[s]? =some (.cells #[.int .i64 (nx+1),.slice a5 n5 c5,.slice Ed (n+1) c15] 116 (0,0)):=aO vR;have p9:((w9.setCell ⟨s,1,none⟩ (.slice a5 n5 c5)).setCell ⟨s,0,none⟩ (.int .i64 (nx+1))).cell? ⟨s,0,none⟩=some (.int .i64 (nx+1)):=by simp[World.cell?,sK]
    have e1:IntKind.i64.wrap (nx+1)=nx+1:=aag _ (by omega);have e2:IntKind.i64.wrap (nx+1-1)=nx:=by rw[show nx+1-1=nx by omega];exact aag _ (by omega)
    have zD:=acr sK;clear Li vR sK hC11;go_wp2_with fail
    go_ret2
    refine⟨rfl,?_⟩;exact Vr.o _ _ _ _ _ _ _ _ Z8.o (Vs.o.trans (Keeps.gI _ ⟨s,0,none⟩ _) fun x _ hx=>hx) zD.o
  case g1_14=>
   go_simp;have Rk:=Gh.o.one (t2:=150) [.int .i64 nx,.slice a5 n5 c5,ptr q] (by simp[maxLen])
   try simp only[Pe]at Rk
   refine bV hK (iW.o _ Rk.b) fun hS=> ?_;clear hK K;refine bU 1 fun K hK=> ?_;go_simp;have Fu:=Rk.lit
   try simp only[Pe]at Fu
   refine bV hK (iW.o _ Fu.b) fun hS=> ?_;clear hK K;refine bU 6 fun K hK=> ?_;refine dF (by rfl) (.tmp 27) (.tmp 31) 114 (by rfl) w5.heap.size 150 iO _ 3 40 Tryz.underlying114 uI.o.1 uI.o.2.1 uI.o.2.2.1 uI.o.2.2.2 rfl (by omega) _ 0 [] (by rfl) Fu.o _ n _ (vals) (by rfl) (qB.o _ Fu.b) Kn.o (by unfold maxLen;omega) (by omega) Fu.b.size ?_;intro A6 c6 u6 hown hgr hat;have BZ:=Fu.app hown hgr hat;simp only[Nat.zero_add,List.nil_append]at BZ⊢;clear hown hgr hat;refine bV hK (iW.o _ BZ.b) fun hS=> ?_;clear hK K;refine bU 15 fun K hK=> ?_;have Kt:ah _ _ _ (1*3) [.int .i64 nx,.slice a5 n5 c5,ptr q]:=BZ.r;refine dF (by rfl) (.tmp 32) (.tmp 40) 114 (by rfl) w5.heap.size 150 iO _ 3 40 Tryz.underlying114 uI.o.1 uI.o.2.1 uI.o.2.2.1 uI.o.2.2.2 rfl (by omega) _ n vals (by rfl) BZ.o _ 1 _ ([.int .i64 nx,.slice a5 n5 c5,ptr q]) (by rfl) Kt (by simp[Value.oneCell']) (by unfold maxLen;omega) (by omega) BZ.b.size ?_;intro Ed c15 Gv hown hgr hat;have M5:=BZ.app hown hgr hat;clear hown hgr hat;refine bV hK (iW.o _ M5.b) fun hS=> ?_;clear hK K;refine aC 16 hS ?_;refine aC 17 hS ?_;refine bU 18 fun K hK=> ?_;go_simp;refine nk hK ?_;clear hS hK K;have Z8:=acr M5;have Li:(Gv.setCell ⟨s,2,none⟩ (.slice Ed (n+1) c15)).heap[s]? =some (.cells #[.int .i64 nx,.slice la m lc,.slice Ed (n+1) c15] 116 (0,0)):=aO (HHD.o _ Z8.o.b);have HK9:acs (Keeps (fun b=>b=s) Gv (Gv.setCell ⟨s,2,none⟩ (.slice Ed (n+1) c15))):=acr (Keeps.gI Gv ⟨s,2,none⟩ (.slice Ed (n+1) c15));generalize Gv.setCell ⟨s,2,none⟩ (.slice Ed (n+1) c15)=w9 at*;have p1:w9.cell? ⟨s,1,none⟩=some (.slice la m lc):=by simp[World.cell?,Li]
   have f1:w9.frozen? ⟨s,1,none⟩=false:=by simp[World.frozen?,Li]
   have vR:(w9.setCell ⟨s,1,none⟩ (.slice a5 n5 c5)).heap[s]? =some (.cells #[.int .i64 nx,.slice a5 n5 c5,.slice Ed (n+1) c15] 116 (0,0)):=aO Li;have Vs:acs (Keeps (fun b=>b=s) Gv (w9.setCell ⟨s,1,none⟩ (.slice a5 n5 c5))):=HK9.o.trans (Keeps.gI w9 ⟨s,1,none⟩ (.slice a5 n5 c5)) fun x _ hx=>hx;have p0:(w9.setCell ⟨s,1,none⟩ (.slice a5 n5 c5)).cell? ⟨s,0,none⟩=some (.int .i64 nx):=by simp[World.cell?,vR]
   have f0:(w9.setCell ⟨s,1,none⟩ (.slice a5 n5 c5)).frozen? ⟨s,0,none⟩=false:=by simp[World.frozen?,vR]
   have sK:((w9.setCell ⟨s,1,none⟩ (.slice a5 n5 c5)).setCell ⟨s,0,none⟩ (.int .i64 (nx+1))).heap[s]? =some (.cells #[.int .i64 (nx+1),.slice a5 n5 c5,.slice Ed (n+1) c15] 116 (0,0)):=aO vR;have p9:((w9.setCell ⟨s,1,none⟩ (.slice a5 n5 c5)).setCell ⟨s,0,none⟩ (.int .i64 (nx+1))).cell? ⟨s,0,none⟩=some (.int .i64 (nx+1)):=by simp[World.cell?,sK]
   have e1:IntKind.i64.wrap (nx+1)=nx+1:=aag _ (by omega);have e2:IntKind.i64.wrap (nx+1-1)=nx:=by rw[show nx+1-1=nx by omega];exact aag _ (by omega)
   have zD:=acr sK;clear Li vR sK M5;go_wp2_with fail
   go_ret2
   refine⟨rfl,?_⟩;exact Vr.o _ _ _ _ _ _ _ _ Z8.o (Vs.o.trans (Keeps.gI _ ⟨s,0,none⟩ _) fun x _ hx=>hx) zD.o
end
def Z9(o:Mark)(w:World)(x y z:Value):Option FW→Prop
 |none=>x= .int .i64 0∧y= .int .i64 0∧z= .slice none 0 0
 |some f=>x= .int .i64 (cond f.wr 1 2)∧y= .int .i64 f.id∧∃a c,z= .slice a f.b.length c∧f.b.length≤c∧ah (Free o w) w a f.b.length (f.b.map bv)
def Ee(t s:Nat)(now:Int)(v:Nat→Value):Array Value:= #[ptr t,ptr s,.int .u64 now,v 0,v 1,v 2,v 3,v 4,v 5,v 6,v 7,v 8,v 9,v 10,v 11,v 12,v 13,v 14,v 15,v 16,v 17,v 18,v 19,v 20,v 21,v 22,v 23]
structure j_(o:Mark)(i:Nat)(w:World)(p:Nat)(M:dQ):Prop where
 at_:∃t s v,w.heap[p]? =some (.cells (Ee t s M.now v) 66 (0,0))∧gB o i w s M.s∧gV o (i+1) w t M.t∧∀n,n<8→Z9 o w (v (n*3)) (v (n*3+1)) (v (n*3+2)) (M.fds n)
 own:o p=i+2
 low:p<w.heap.size
theorem Z9.step{o o':Mark}{I:Nat→Prop}{w w':World}{x y z:Value}{f:Option FW}(h:Z9 o w x y z f)(hi:¬I 0)(hs:Step o I w o' w'):Z9 o' w' x y z f:=by
 cases f with
 |none=>exact h
 |some f=>
  obtain⟨h1,h2,a,c,h3,h4,h5⟩:=h;exact⟨h1,h2,a,c,h3,h4,h5.free hi hs⟩
theorem j_.step{o o':Mark}{I:Nat→Prop}{i:Nat}{w w':World}{p:Nat}{M:dQ}(h:j_ o i w p M)(h0:¬I 0)(hi:¬I i)(hj:¬I (i+1))(hk:¬I (i+2))(hs:Step o I w o' w'):j_ o' i w' p M:=by
 obtain⟨t,s,v,h1,h2,h3,h4⟩:=h.at_;exact⟨⟨t,s,v,(hs.block h.low (by rw[h.own];exact hk)).trans h1,h2.step h0 hi hs,h3.step h0 hj hs,fun n hn=>(h4 n hn).step h0 hs⟩,(hs.old p h.low).trans h.own,Nat.lt_of_lt_of_le h.low hs.keep.size⟩
theorem j_.grow{W:World}{o:Mark}{i:Nat}{w w':World}{p:Nat}{M:dQ}(h:j_ o i w p M)(hM:Marks W o w)(hb:Below w.heap.size w w'):j_ o i w' p M:=
 h.step (I:=fun _=>False) (fun e=>e) (fun e=>e) (fun e=>e) (fun e=>e) (Step.grow hM hb)
theorem OV{n:Nat}(h:n<8):n=0∨n=1∨n=2∨n=3∨n=4∨n=5∨n=6∨n=7:=by omega
structure RCells(w:World)(p t s:Nat)(now:Int)(v:Nat→Value):Prop where
 c0:w.cell? ⟨p,0,none⟩=some (ptr t)
 c1:w.cell? ⟨p,1,none⟩=some (ptr s)
 c2:w.cell? ⟨p,2,none⟩=some (.int .u64 now)
 fd:∀n,n<8→w.cell? ⟨p,3+n*3,none⟩=some (v (n*3))∧w.cell? ⟨p,3+n*3+1,none⟩=some (v (n*3+1))∧w.cell? ⟨p,3+n*3+2,none⟩=some (v (n*3+2))
 fz:∀j,w.frozen? ⟨p,j,none⟩=false
theorem jZ{w:World}{p t s:Nat}{now:Int}{v:Nat→Value}(h:w.heap[p]? =some (.cells (Ee t s now v) 66 (0,0))):RCells w p t s now v:=by
 refine⟨?_,?_,?_,fun n hn=> ?_,fun j=> ?_⟩
 ·simp[World.cell?,h,Ee]
 ·simp[World.cell?,h,Ee]
 ·simp[World.cell?,h,Ee]
 ·rcases OV hn with rfl|rfl|rfl|rfl|rfl|rfl|rfl|rfl<;>simp[World.cell?,h,Ee]
 ·simp[World.frozen?,h]
theorem YH(t s:Nat)(now:Int)(v:Nat→Value)(n:Nat)(hn:n<8)(x y z:Value):(((Ee t s now v).setIfInBounds (3+n*3) x).setIfInBounds (3+n*3+1) y).setIfInBounds (3+n*3+1+1) z=Ee t s now (fun m=>if m=n*3 then x else if m=n*3+1 then y else if m=n*3+2 then z else v m):=by
 rcases OV hn with rfl|rfl|rfl|rfl|rfl|rfl|rfl|rfl<;>rfl
theorem YI(t s:Nat)(now u:Int)(v:Nat→Value):(Ee t s now v).setIfInBounds 2 (.int .u64 u)=Ee t s u v:=rfl
section
variable{W w w' w3 w4 w5:World}{o o' o1 o4:Mark}{i n p g:Nat}{M M':dQ}
theorem j_.tree{t s:Nat}{v:Nat→Value}{T':aA}(hi:0<i)(h1:w.heap[p]? =some (.cells (Ee t s M.now v) 66 (0,0)))(h2:gB o i w s M.s)(h4:∀n,n<8→Z9 o w (v (n*3)) (v (n*3+1)) (v (n*3+2)) (M.fds n))(hown:o p=i+2)(hlow:p<w.heap.size)(hs:Step o (fun m=>m=i+1) w o' w')(hT:gV o' (i+1) w' t T'):j_ o' i w' p (M.tr T'):=
 have h0:¬(fun m=>m=i+1) 0:=by simp
 ⟨⟨t,s,v,(hs.block hlow (by rw[hown];omega)).trans h1,h2.step h0 (by omega) hs,hT,fun n hn=>(h4 n hn).step h0 hs⟩,(hs.old p hlow).trans hown,Nat.lt_of_lt_of_le hlow hs.keep.size⟩
theorem j_.put(h:j_ o i w p M)(hM:Marks W o w)(hi:0<i)(n:Nat)(hn:n<8)(x y z:Value)(f:Option FW)(hf:Z9 o w x y z f):Step o (fun m=>m=i+2) w o (w.setCells p (3+n*3) [x,y,z])∧j_ o i (w.setCells p (3+n*3) [x,y,z]) p (M.put n f):=by
 obtain⟨t,s,v,h1,h2,h3,h4⟩:=h.at_;have e:w.setCells p (3+n*3) [x,y,z]=((w.setCell ⟨p,3+n*3,none⟩ x).setCell ⟨p,3+n*3+1,none⟩ y).setCell ⟨p,3+n*3+1+1,none⟩ z:=rfl;rw[e];have k1:=aO (i:=3+n*3) (v:=x) h1;have k2:=aO (i:=3+n*3+1) (v:=y) k1;have k3:=aO (i:=3+n*3+1+1) (v:=z) k2;rw[YH _ _ _ _ _ hn]at k3;have s1:=size_set w ⟨p,3+n*3,none⟩ x;have s2:=size_set (w.setCell ⟨p,3+n*3,none⟩ x) ⟨p,3+n*3+1,none⟩ y;have s3:=size_set ((w.setCell ⟨p,3+n*3,none⟩ x).setCell ⟨p,3+n*3+1,none⟩ y) ⟨p,3+n*3+1+1,none⟩ z;have hst:Step o (fun m=>m=i+2) w o (((w.setCell ⟨p,3+n*3,none⟩ x).setCell ⟨p,3+n*3+1,none⟩ y).setCell ⟨p,3+n*3+1+1,none⟩ z):=⟨fun _ _=>rfl,fun b hb hn=>absurd (hM.new b hn).2 (by omega),(((Keeps.gI w ⟨p,3+n*3,none⟩ x).trans (Keeps.gI _ ⟨p,3+n*3+1,none⟩ y) fun x _ hx=>hx).trans (Keeps.gI _ ⟨p,3+n*3+1+1,none⟩ z) fun x _ hx=>hx).mono fun x _ hx=>by
  have hx:x=p:=hx;rw[hx];exact h.own⟩
 have h0:¬(fun m=>m=i+2) 0:=by simp
 refine⟨hst,⟨t,s,_,k3,h2.step h0 (by omega) hst,h3.step h0 (by omega) hst,fun m hm=> ?_⟩,h.own,by have:=h.low;omega⟩;unfold dQ.put;by_cases hmn:m=n
 ·subst hmn;simp only[abC,if_neg (show ¬m*3+1=m*3 by omega),if_neg (show ¬m*3+2=m*3 by omega),if_neg (show ¬m*3+2=m*3+1 by omega)];exact hf.step h0 hst
 ·simp only[if_neg hmn,if_neg (show ¬m*3=n*3 by omega),if_neg (show ¬m*3=n*3+1 by omega),if_neg (show ¬m*3=n*3+2 by omega),if_neg (show ¬m*3+1=n*3 by omega),if_neg (show ¬m*3+1=n*3+1 by omega),if_neg (show ¬m*3+1=n*3+2 by omega),if_neg (show ¬m*3+2=n*3 by omega),if_neg (show ¬m*3+2=n*3+1 by omega),if_neg (show ¬m*3+2=n*3+2 by omega)];exact(h4 m hm).step h0 hst
structure sM(W:World)(o:Mark)(i n:Nat)(w:World)(p g:Nat)(o1:Mark)(w3:World)(M:dQ):Prop where
 hi:0<i
 hn:i+3≤n∧n≤i+4
 st:j_ o1 i w3 p M
 marks:Marks W o1 w3
 step:Step o (fun m=>i≤m∧m≤n) w o1 w3
 re:w3.heap[g]? =some (.cells (jd (dR 0) none none 0 0) 41 (0,0))
 rm:o1 g=n
def uV(o:Mark)(i n:Nat)(w:World)(p:Nat)(q:su×dQ)(e:Ending)(w':World):Prop:=
 ∃o',DC o' q.1 e w'∧Step o (fun m=>i≤m∧m≤n) w o' w'∧j_ o' i w' p q.2
structure Vt(o:Mark)(w:World)(z:Nat)(x:jK)(da:Option Addr)(dc:Nat):Prop where
 at_:w.heap[z]? =some (.cells (opC x da dc) 30 (0,0))
 own:o z=0
theorem Vt.low{z dc:Nat}{x:jK}{da:Option Addr}(h:Vt o w z x da dc):z<w.heap.size:=(iL.1 h.at_).1
theorem Vt.step{I:Nat→Prop}{z dc:Nat}{x:jK}{da:Option Addr}(h:Vt o w z x da dc)(h0:¬I 0)(hs:Step o I w o' w'):Vt o' w' z x da dc:=
 ⟨(hs.block h.low (by rw[h.own];exact h0)).trans h.at_,(hs.old z h.low).trans h.own⟩
theorem Vt.grow{z dc:Nat}{x:jK}{da:Option Addr}(h:Vt o w z x da dc)(hb:Below w.heap.size w w'):Vt o w' z x da dc:=⟨(hb.block z h.low).trans h.at_,h.own⟩
theorem Vt.cells{z dc:Nat}{x:jK}{da:Option Addr}(h:Vt o w z x da dc):w.cell? ⟨z,0,none⟩=some (.int .i64 x.kind)∧w.cell? ⟨z,1,none⟩=some (.string (strOf x.path))∧w.cell? ⟨z,2,none⟩=some (.string (strOf x.ig))∧w.cell? ⟨z,3,none⟩=some (.int .i64 x.fd)∧w.cell? ⟨z,4,none⟩=some (.int .i64 x.at_)∧w.cell? ⟨z,5,none⟩=some (.int .i64 x.n)∧w.cell? ⟨z,6,none⟩=some (.int .u64 x.aF)∧w.cell? ⟨z,7,none⟩=some (.int .i64 x.snap)∧w.cell? ⟨z,8,none⟩=some (.slice da x.data.length dc):=by
 have h1:=h.at_;unfold opC at h1;refine⟨?_,?_,?_,?_,?_,?_,?_,?_,?_⟩<;>simp[World.cell?,h1]
theorem sM.start(hi:0<i)(hn:i+3≤n∧n≤i+4)(hS:j_ o i w p M)(hM:Marks W o w)(hB:Below w.heap.size w w3):∃o1,sM W o i n w p w3.heap.size o1 (w3.alloc (.cells (jd (dR 0) none none 0 0) 41)) M∧∀b,b<w3.heap.size→o1 b=o b:=by
 obtain⟨w2,hw2⟩:∃w2,w2=w3.alloc (.cells (jd (dR 0) none none 0 0) 41):=⟨_,rfl⟩;have hb2:Below w3.heap.size w3 w2:=by rw[hw2];exact wall w3 _
 have hre:w2.heap[w3.heap.size]? =some (.cells (jd (dR 0) none none 0 0) 41 (0,0)):=by rw[hw2];exact(MapKept.heap_alloc w3 _).1
 rw[←hw2];have hM3:=hM.grow hB;obtain⟨o1,hs1,hl1,hl2⟩:=iQ hM3 n (fun b=>b=w3.heap.size) (w':=w2) (fun b hb=>by subst hb;exact⟨Nat.le_refl _,(iL.1 hre).1⟩) hb2;have h0:¬(fun m=>m=n) 0:=by omega
 exact⟨o1,⟨hi,hn,(hS.grow hM hB).step h0 (by omega) (by omega) (by omega) hs1,hM3.step h0 hs1,(Step.grow hM hB).trans (hs1.mono fun m hm=>by omega),hre,hl1 _ rfl⟩,fun b hb=>hs1.old b hb⟩
theorem sM.grow(h:sM W o i n w p g o1 w3 M)(hb:Below w3.heap.size w3 w4):sM W o i n w p g o1 w4 M:=
 ⟨h.hi,h.hn,h.st.grow h.marks hb,h.marks.grow hb,h.step.trans (Step.grow h.marks hb),(hb.block _ (iL.1 h.re).1).trans h.re,h.rm⟩
theorem sM.turn(h:sM W o i n w p g o1 w3 M){I:Nat→Prop}(hI:∀m,I m→i≤m∧m<n)(hs:Step o1 I w3 o4 w4)(hS:j_ o4 i w4 p M'):sM W o i n w p g o4 w4 M':=by
 have hr:=(iL.1 h.re).1;have hi:=h.hi;have h0:¬I 0:=fun e=>by have:=hI 0 e;omega
 refine⟨h.hi,h.hn,hS,h.marks.step h0 hs,h.step.trans (hs.mono fun m hm=>by have:=hI m hm;omega),(hs.block hr (by rw[h.rm];exact fun e=>by have:=hI n e;omega)).trans h.re,(hs.old _ hr).trans h.rm⟩
theorem sM.xg(h:sM W o i n w p g o1 w3 M):∃t,w3.cell? ⟨p,0,none⟩=some (ptr t)∧gV o1 (i+1) w3 t M.t∧∀o4 w4 T',Step o1 (fun m=>m=i+1) w3 o4 w4→gV o4 (i+1) w4 t T'→sM W o i n w p g o4 w4 (M.tr T')∧w4.heap[p]? =w3.heap[p]? :=by
 obtain⟨t,s,v,h1,h2,h3,h4⟩:=h.st.at_;have hn:=h.hn;exact⟨t,(jZ h1).c0,h3,fun o4 w4 T' hs hT=>⟨h.turn (fun m hm=>by omega) hs (j_.tree (M:=M) h.hi h1 h2 h4 h.st.own h.st.low hs hT),hs.block h.st.low (by rw[h.st.own];omega)⟩⟩
theorem sM.OW(h:sM W o i n w p g o1 w3 M):∃t s,w3.cell? ⟨p,0,none⟩=some (ptr t)∧w3.cell? ⟨p,1,none⟩=some (ptr s)∧w3.cell? ⟨p,2,none⟩=some (.int .u64 M.now)∧gV o1 (i+1) w3 t M.t∧gB o1 i w3 s M.s∧∀o4 w4 S',Step o1 (fun m=>m=i) w3 o4 w4→gB o4 i w4 s S'→sM W o i n w p g o4 w4 (M.sn S')∧w4.heap[p]? =w3.heap[p]? :=by
 obtain⟨t,s,v,h1,h2,h3,h4⟩:=h.st.at_;have hn:=h.hn;have hi:=h.hi;obtain⟨z0,z1,z2,-,-⟩:=jZ h1;refine⟨t,s,z0,z1,z2,h3,h2,fun o4 w4 S' hs hS=> ?_⟩;have h0:¬(fun m=>m=i) 0:=by omega
 have hpb:=hs.block h.st.low (by rw[h.st.own];omega);exact⟨h.turn (fun m hm=>by omega) hs ⟨⟨t,s,v,hpb.trans h1,hS,h3.step h0 (by omega) hs,fun q hq=>(h4 q hq).step h0 hs⟩,(hs.old p h.st.low).trans h.st.own,Nat.lt_of_lt_of_le h.st.low hs.keep.size⟩,hpb⟩
theorem sM.clock(h:sM W o i n w p g o1 w3 M)(u:Int):w3.cell? ⟨p,2,none⟩=some (.int .u64 M.now)∧w3.frozen? ⟨p,2,none⟩=false∧sM W o i n w p g o1 (w3.setCell ⟨p,2,none⟩ (.int .u64 u)) {M with now:=u}:=by
 obtain⟨t,s,v,h1,h2,h3,h4⟩:=h.st.at_;obtain⟨z0,z1,z2,z3,z4⟩:=jZ h1;have hz:=size_set w3 ⟨p,2,none⟩ (.int .u64 u);have hst:Step o1 (fun m=>m=i+2) w3 o1 (w3.setCell ⟨p,2,none⟩ (.int .u64 u)):=⟨fun _ _=>rfl,fun b hb hn=>absurd (h.marks.new b hn).2 (by omega),(Keeps.gI w3 ⟨p,2,none⟩ _).mono fun x _ hx=>by
  have hx:x=p:=hx;rw[hx];exact h.st.own⟩
 have hn:=h.hn;have h0:¬(fun m=>m=i+2) 0:=by simp
 refine⟨z2,z4 2,h.turn (fun m hm=>by omega) hst ⟨⟨t,s,v,?_,h2.step h0 (by omega) hst,h3.step h0 (by omega) hst,fun m hm=>(h4 m hm).step h0 hst⟩,h.st.own,by have:=h.st.low;omega⟩⟩;have:=aO (i:=2) (v:= .int .u64 u) h1;rw[YI]at this;exact this
theorem sM.put(h:sM W o i n w p g o1 w3 M)(m:Nat)(hm:m<8)(x y z:Value)(f:Option FW)(hf:Z9 o1 w3 x y z f):w3.there p (3+m*3) 3∧sM W o i n w p g o1 (w3.setCells p (3+m*3) [x,y,z]) (M.put m f):=by
 obtain⟨hs,hS⟩:=h.st.put h.marks h.hi m hm x y z f hf;obtain⟨t,s,v,h1,-⟩:=h.st.at_;obtain⟨-,-,-,z3,z4⟩:=jZ h1;obtain⟨d0,d1,d2⟩:=z3 m hm;have hn:=h.hn;refine⟨fun q hq=>⟨?_,z4 _⟩,h.turn (fun m hm=>by omega) hs hS⟩;rcases (show q=0∨q=1∨q=2 by omega)with rfl|rfl|rfl
 ·rw[Nat.add_zero,d0];rfl
 ·rw[d1];rfl
 ·rw[d2];rfl
theorem sM.put3(h:sM W o i n w p g o1 w3 M)(m:Nat)(hm:m<8)(x y z:Value)(f:Option FW)(hf:Z9 o1 w3 x y z f):∃u0 u1 u2,w3.cell? ⟨p,3+m*3,none⟩=some u0∧w3.cell? ⟨p,3+m*3+1,none⟩=some u1∧w3.cell? ⟨p,3+m*3+2,none⟩=some u2∧(∀j,w3.frozen? ⟨p,j,none⟩=false)∧sM W o i n w p g o1 (((w3.setCell ⟨p,3+m*3,none⟩ x).setCell ⟨p,3+m*3+1,none⟩ y).setCell ⟨p,3+m*3+2,none⟩ z) (M.put m f):=by
 obtain⟨t,s,v,h1,-⟩:=h.st.at_;obtain⟨-,-,-,z3,z4⟩:=jZ h1;obtain⟨d0,d1,d2⟩:=z3 m hm;exact⟨_,_,_,d0,d1,d2,z4,(h.put m hm x y z f hf).2⟩
theorem sM.fin{r:su}{JN JO:Option Addr}{JQ JR:Nat}(h:sM W o i n w p g o1 w4 M)(hs:jH w4 g (jd r JN JO JQ JR) 41 w5)(k1:r.data.length≤JQ)(k2:r.names.length≤JR)(k3:ah (Free o1 w4) w4 JN r.data.length (r.data.map bv))(k4:aT (Free o1 w4) w4 JO r.names.length (r.names.map strOf)):
  uV o i n w p (r,M) (.returned (.agg (jd r JN JO JQ JR))) w5:=by
 have hst:=hs.step h.marks h.rm;have hi:=h.hi;have hn:=h.hn;have hn0:¬(fun m=>m=n) 0:=by omega
 exact⟨o1,⟨_,rfl,JN,JO,JQ,JR,rfl,k1,k2,k3.free hn0 hst,⟨k4.row.free hn0 hst,k4.short⟩⟩,h.step.trans (hst.mono fun m hm=>by omega),h.st.step hn0 (by omega) (by omega) (by omega) hst⟩
theorem sM.Ux{r:su}(h:sM W o i n w p g o1 w4 M)(hs:jH w4 g (jd r none none 0 0) 41 w5)(k1:r.data=[])(k2:r.names=[]):
  uV o i n w p (r,M) (.returned (.agg (jd r none none 0 0))) w5:=
 h.fin hs (by rw[k1];exact Nat.le_refl _) (by rw[k2];exact Nat.le_refl _) (by rw[k1];exact ah.nil _ _ _) (by rw[k2];exact mV _ _)
end
theorem dI(z:Int)(w:World):Calls Tryz.prog 40 #[.int .i64 z] w fun e w'=>e= .returned (pz z)∧Below w.heap.size w w':=by
 go_enter Tryz.func40,Tryz.ntmps40;go_wp2;refine aaB (v:=pz z) (by simp[results,Tryz.results40,pz,go_sem]) rfl ⟨rfl,wall w _⟩
def Vu(k:Int):Bool:=decide (k≠4∧k≠5∧k≠6∧k≠14∧k≠15∧k≠16∧k≠17)
theorem Gw(k:Int)(hk:1≤k∧k≤17)(w:World):Calls Tryz.prog 41 #[.int .i64 k] w fun e w'=>e= .returned (.bool (Vu k))∧Below w.heap.size w w':=by
 rcases (show k=1∨k=2∨k=3∨k=4∨k=5∨k=6∨k=7∨k=8∨k=9∨k=10∨k=11∨k=12∨k=13∨k=14∨k=15∨k=16∨k=17 by omega)with rfl|rfl|rfl|rfl|rfl|rfl|rfl|rfl|rfl|rfl|rfl|rfl|rfl|rfl|rfl|rfl|rfl
 all_goals as_aux_lemma=>
  go_enter Tryz.func41,Tryz.ntmps41;go_wp2;go_ret;exact⟨rfl,Below.refl _ _⟩
section
variable{W w:World}{o:Mark}{i p s:Nat}{M:dQ}{S:lN}
theorem Gx(h:j_ o i w p M):Calls Tryz.prog 101 #[ptr p] w fun e w'=>∃n,e= .returned (.int .i64 n)∧JD M n∧w'=w:=by
 obtain⟨t,s,v,h1,h2,h3,h4⟩:=h.at_;obtain⟨c0,c1,c2,c3,c4⟩:=jZ h1;have H4:=acr h4;have C3:=acr c3;clear h h1 h2 h3 h4 c3 c4;go_enter Tryz.func101,Tryz.ntmps101;go_wp2_with fail
 go_loopw [3] (fun iv wr=>∃n:Nat,n≤8∧iv= .int .i64 n∧(∀m,m<n→M.fds m≠none)∧wr=w) (fun iv _=>8-(intOf iv).toNat)
 case atStart=>exact⟨0,by omega,rfl,fun m hm=>by omega,rfl⟩
 case round=>
  obtain⟨n,hn,rfl,hno,rfl⟩:=hrel;have Dx:=acr hno;clear hno;by_cases mQ:n<8
  ·have hd:decide ((n:Int)<8)=true:=by simp;omega
   obtain⟨d0,-,-⟩:=C3.o n mQ;have hf:=H4.o n mQ;have i0:(0:Int)≤n:=by omega
   have i1:(n:Int)<8:=by omega
   cases yM:M.fds n with
   |none=>
    rw[yM]at hf;have hv:v (n*3)= .int .i64 0:=hf.1;rw[hv]at d0;have II:=acr yM;clear hf hv yM;go_wp2_with fail;go_ret;exact⟨n,rfl,.inr ⟨n,mQ,rfl,II.o,Dx.o⟩,rfl⟩
   |some f=>
    rw[yM]at hf;rw[hf.1]at d0;have II:=acr yM;have hc:(cond f.wr (1:Int) 2==0)=false:=by cases f.wr<;>rfl
    clear hf yM;go_wp2_with fail;go_roundw
    case rel=>
     refine⟨n+1,by omega,by go_num,fun m hm=> ?_,trivial⟩;by_cases hmn:m=n
     ·rw[hmn,II.o];simp
     ·exact Dx.o m (by omega)
    case measure=>simp[intOf];omega
  ·obtain rfl:n=8:=by omega
   go_wp2_with fail;go_ret;exact⟨-1,rfl,.inl ⟨rfl,Dx.o⟩,rfl⟩
def YJ(o:Mark)(w:World)(S:lN)(id:Int)(e:Ending)(w':World):Prop:=
 Below w.heap.size w w'∧((F3 S id=none∧e= .returned (.tuple #[.pointer none,.bool false]))∨∃x q,F3 S id=some x∧e= .returned (.tuple #[ptr q,.bool true])∧gV o 0 w' q x.t∧dZ x.t)
theorem Vv(hS:gB o i w s S)(Km:S.l.length≤1000)(id:Int):Calls Tryz.prog 102 #[ptr s,.int .i64 id] w (YJ o w S id):=by
 obtain⟨la,lc,a,c,vals,h1,h2,h3,h4,h5,h6,h7,h8⟩:=hS.at_;obtain⟨n,hn⟩:∃n,n=S.l.length:=⟨_,rfl⟩;have HN:=acr hn;have D7:=acr h6;rw[←hn]at h1 h4 h5 Km;have c2:w.cell? ⟨s,2,none⟩=some (.slice a n c):=by simp[World.cell?,h1]
 have lg:=acr h5;have H4:=acr h4;clear hS h1 h2 h3 h4 h5 h6 h7 h8 hn;go_enter Tryz.func102,Tryz.ntmps102;go_wp2_with fail
 go_loopw [6] (fun iv wr=>∃k:Nat,k≤n∧iv= .int .i64 k∧(∀x∈S.l.take k,x.id≠id)∧wr=w) (fun iv _=>n-(intOf iv).toNat)
 case atStart=>exact⟨0,Nat.zero_le _,rfl,fun x hx=>by simp at hx,rfl⟩
 case round=>
  obtain⟨k,hk,rfl,hno,rfl⟩:=hrel;have Dx:=acr hno;clear hno;by_cases hlt:k<n
  ·have hd:decide (k<n)=true:=by simpa using hlt
   obtain⟨x,hx⟩:∃x,S.l[k]? =some x:=⟨S.l[k]'(by rw[←HN.o];exact hlt),List.getElem?_eq_getElem _⟩;obtain⟨ha,hcp,q,e0,-,e2,-,-,e5,e6⟩:=D7.o.at_ hx;obtain⟨g,off,rfl,-,-,hcell⟩:=lg.o.at_ (by omega);have d0:wr.cell? ⟨g,off+k*3,none⟩=some (.int .i64 x.id):=(hcell (k*3) (by omega)).trans e0;have d2:wr.cell? ⟨g,off+k*3+2,none⟩=some (ptr q):=(hcell (k*3+2) (by omega)).trans e2;have i0:(0:Int)≤(k:Int):=by omega
   have i1:(k:Int)<(n:Int):=by omega
   have HX:=acr hx;have HE:=acr (And.intro e5 e6);clear hx hcell e0 e2 e5 e6;by_cases hid:x.id=id
   ·have hi2:(x.id==id)=true:=by simpa using hid
    have SG:=acr hid;clear hid;go_wp2_with fail
    go_ret2
    exact⟨Below.refl _ _,.inr ⟨x,q,JC.some_ HX.o SG.o Dx.o,rfl,HE.o.1,HE.o.2⟩⟩
   ·have hi2:(x.id==id)=false:=by simpa using hid
    have SG:=acr hid;clear hid;go_wp2_with fail;go_roundw
    case rel=>
     refine⟨k+1,by omega,by go_num,fun y hy=> ?_,trivial⟩;obtain⟨hk',e⟩:=aac.1 HX.o;rw[aae hk',e]at hy;rcases aap.1 hy with hy|hy
     ·exact Dx.o y hy
     ·rw[List.mem_singleton.1 hy];exact SG.o
    case measure=>simp[intOf];omega
  ·have hd:decide (k<n)=false:=by simpa using hlt
   have HK:acs (∀x∈S.l,x.id≠id):=fun x hx=>Dx.o x (by rwa [List.take_of_length_le (by rw[←HN.o];omega)]);clear hlt;go_wp2_with fail
   go_ret2
   exact⟨Below.refl _ _,.inl ⟨JC.none_ HK.o,rfl⟩⟩
theorem YK(hM:Marks W o w)(hi:0<i):Calls Tryz.prog 8 #[] w fun e w'=>∃p o',e= .returned (ptr p)∧Step o (Five i) w o' w'∧Marks W o' w'∧j_ o' i w' p Bg:=by
 have HM:=acr hM;go_enter Tryz.func8,Tryz.ntmps8;go_wp2_with fail;refine(UR HM.o (i+1)).mono ?_;rintro e w1 ⟨t,o1,rfl,hs1,hT1⟩;have h1:¬(fun k=>k=i+1) 0:=by simp
 have nM:=acr (HM.o.step h1 hs1);have ko:=acr (hs1.mono (J:=Five i) fun m hm=>⟨by omega,by omega⟩);have HT1:=acr hT1;clear hs1 hT1;go_wp2_with fail;refine(Ym nM.o i).mono ?_;rintro e w2 ⟨s,o2,rfl,hs2,hS2,hb2⟩;have h2:¬(fun k=>k=i) 0:=by omega
 have zO:=acr (nM.o.step h2 hs2);have HT2:=acr (HT1.o.step h2 (by omega) hs2);have HS2:=acr (ko.o.trans (hs2.mono (J:=Five i) fun m hm=>⟨by omega,by omega⟩));have ES:=acr hS2;clear hs2 hS2 hb2;go_wp2_with fail;go_ret;have hb3:=wall w2 (.cells #[ptr t,ptr s,.int .u64 0,.int .i64 0,.int .i64 0,.slice none 0 0,.int .i64 0,.int .i64 0,.slice none 0 0,.int .i64 0,.int .i64 0,.slice none 0 0,.int .i64 0,.int .i64 0,.slice none 0 0,.int .i64 0,.int .i64 0,.slice none 0 0,.int .i64 0,.int .i64 0,.slice none 0 0,.int .i64 0,.int .i64 0,.slice none 0 0,.int .i64 0,.int .i64 0,.slice none 0 0] 66);obtain⟨o3,hs3,k1,k2⟩:=iQ zO.o (i+2) (fun b=>b=w2.heap.size) (w':=w2.alloc (.cells #[ptr t,ptr s,.int .u64 0,.int .i64 0,.int .i64 0,.slice none 0 0,.int .i64 0,.int .i64 0,.slice none 0 0,.int .i64 0,.int .i64 0,.slice none 0 0,.int .i64 0,.int .i64 0,.slice none 0 0,.int .i64 0,.int .i64 0,.slice none 0 0,.int .i64 0,.int .i64 0,.slice none 0 0,.int .i64 0,.int .i64 0,.slice none 0 0,.int .i64 0,.int .i64 0,.slice none 0 0] 66)) (fun b hb=>by subst hb;simp) hb3;have h3:¬(fun k=>k=i+2) 0:=by simp
 refine⟨w2.heap.size,o3,rfl,HS2.o.trans (hs3.mono fun m hm=>⟨by omega,by omega⟩),zO.o.step h3 hs3,⟨⟨t,s,fun n=>if n%3=2 then .slice none 0 0 else .int .i64 0,(MapKept.heap_alloc w2 _).1,ES.o.step h3 (by omega) hs3,HT2.o.step h3 (by omega) hs3,fun n hn=> ?_⟩,k1 _ rfl,by simp⟩⟩;exact⟨if_neg (by omega),if_neg (by omega),if_pos (by omega)⟩
end
section
variable{W w w3 w4 w5:World}{o o1 o4:Mark}{i n p g:Nat}{M M':dQ}
theorem sM.rep{ops:Array Oper}{rest:List Oper}{oo:Oper}{a:Act}{Q:Exit→Act→World→Prop}{x y:Operand}(h:sM W o i n w p g o1 w4 M)(r:su)(da la:Option Addr)(dc lc:Nat)
  (hn:∀w5,acs (jH w4 g (jd r da la dc lc) 41 w5)→wpList Tryz.prog ops Q rest (a.put oo.dst undef) w5)
  (ho:oo.op= .store 41 x y:=by rfl)(hgd:oo.guard=none:=by rfl)(hx:a.eval x= .pointer (some ⟨g,0,none⟩):=by rfl)(hy:a.eval y= .agg (jd r da la dc lc):=by rfl):wpList Tryz.prog ops Q (oo::rest) a w4:=
 aJ hgd _ _ _ ho g _ hx hy _ h.re iH rfl (iX _ _ _ _ _) fun w5 hs=>hn w5 (acr hs)
theorem sM.ret{q:su×dQ}{r:su}{da la:Option Addr}{dc lc:Nat}{fn:Func}{sl:Nat}{a:Act}(h:sM W o i n w p g o1 w4 M)(hs:acs (jH w4 g (jd r da la dc lc) 41 w5))(hq:q=(r,M))(k:r.data.length≤dc∧r.names.length≤lc∧ah (Free o1 w4) w4 da r.data.length (r.data.map bv)∧aT (Free o1 w4) w4 la r.names.length (r.names.map strOf))
  (hf:fn.results= #[.cell sl 41]:=by rfl)(hx:a.tmps.getD sl undef= .pointer (some ⟨g,0,none⟩):=by rfl)(hd:a.defers=[]:=by rfl):bodyPost Tryz.prog fn (uV o i n w p q) .ret a w5:=by
 subst hq;exact kC hf hx hd hs.o.1 (h.fin hs.o k.1 k.2.1 k.2.2.1 k.2.2.2)
theorem sM.je{q:su×dQ}{r:su}{fn:Func}{sl:Nat}{a:Act}(h:sM W o i n w p g o1 w4 M)(hs:acs (jH w4 g (jd r none none 0 0) 41 w5))(hq:q=(r,M))(k1:r.data=[]:=by rfl)(k2:r.names=[]:=by rfl)
  (hf:fn.results= #[.cell sl 41]:=by rfl)(hx:a.tmps.getD sl undef= .pointer (some ⟨g,0,none⟩):=by rfl)(hd:a.defers=[]:=by rfl):bodyPost Tryz.prog fn (uV o i n w p q) .ret a w5:=by
 subst hq;exact kC hf hx hd hs.o.1 (h.Ux hs.o k1 k2)
theorem jV(hi:0<i)(hn:i+3≤n∧n≤i+4)(hS:j_ o i w p M)(hM:Marks W o w)(x:jK)(da:Option Addr)(dc:Nat):∃o1 w2,w2=(w.alloc (.cells (opC x da dc) 30)).alloc (.cells (jd (dR 0) none none 0 0) 41)∧sM W o i n w p (w.heap.size+1) o1 w2 M∧Vt o1 w2 w.heap.size x da dc∧Below w.heap.size w w2:=by
 have hb:=wall w (.cells (opC x da dc) 30);obtain⟨o1,h1,h2⟩:=sM.start hi hn hS hM hb;have hb2:=wall (w.alloc (.cells (opC x da dc) 30)) (.cells (jd (dR 0) none none 0 0) 41);rw[Pe]at h1;refine⟨o1,_,rfl,h1,⟨(hb2.block _ (by simp)).trans (MapKept.heap_alloc w _).1,(h2 _ (by simp)).trans (Decidable.byContradiction fun h9=>by have:=(hM.new _ h9).2;omega)⟩,hb.trans (hb2.mono (by simp))⟩
end
theorem Ij:(Tryz.prog.info? 63).map (·.size)=some 3:=by kernel_rfl
theorem YL{w:World}{p k:Nat}{x y z:Value}(h0:w.cell? ⟨p,3+k*3,none⟩=some x)(h1:w.cell? ⟨p,3+k*3+1,none⟩=some y)(h2:w.cell? ⟨p,3+k*3+2,none⟩=some z):(Instr.loadAt 63 (.pointer (some ⟨p,3+k*3,none⟩))).run Tryz.prog w= .ok (.agg #[x,y,z]) w:=
 run_loadAt_mid w p (3+k*3) 63 [x,y,z] _ (fun j v hj=>by
  rcases j with _|_|_|j
  ·cases hj;exact h0
  ·cases hj;exact h1
  ·cases hj;exact h2
  ·simp at hj) Tryz.underlying63 rfl Ij
end Go.Proofs.YtjnhnlabpccgjaaGreatDoor
