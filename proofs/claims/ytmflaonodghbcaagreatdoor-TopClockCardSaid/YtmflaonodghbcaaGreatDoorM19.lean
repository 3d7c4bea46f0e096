/- record -/
import Derived.Test.YtmflaonodghbcaaGreatDoorM13
import Derived.Test.YtmflaonodghbcaaGreatDoorM18
import Derived.Test.YtmflaonodghbcaaGreatDoorM06
import Derived.Test.YtmflaonodghbcaaGreatDoorM03
import Derived.Test.YtmflaonodghbcaaGreatDoorM11
set_option maxRecDepth 100000
set_option maxHeartbeats 64000000
set_option linter.all false
namespace Go.Proofs.YtmflaonodghbcaaGreatDoor
open Go.ChangeShapes Go.WideShapes Go.ChangeAt Go.RowKit
theorem nL{P:Program}{fn:Func}{a b d:Nat}{t:TypeId}{tmps:Array Value}{ad:Addr}{v:Value}{w:World}(h:fn.results= #[.cell a t,.tmp b,.tmp d])(ha:tmps.getD a undef= .pointer (some ad))(hl:(loadVar t ad).run P w= .ok v w):(results fn tmps).run P w= .ok (.tuple #[v,tmps.getD b undef,tmps.getD d undef]) w:=by
 have ha2:tmps[a]?.getD undef= .pointer (some ad):=by simpa using ha
 simp[results,h,asAddr,ha2,hl]
theorem Vv:(Tryz.prog.info? 69).map (·.size)=some 3:=by kernel_rfl
theorem zH{w:World}{x:RecM}{b:Nat}{a:Option Addr}{c:Nat}(h:w.heap[b]? =some (.cells (zi x a c) 69 (0,0))):w.cell? ⟨b,0,none⟩=some (.int .i64 x.kind)∧w.cell? ⟨b,1,none⟩=some (.int .u64 x.seq)∧w.cell? ⟨b,2,none⟩=some (.slice a x.body.length c):=by
 refine⟨?_,?_,?_⟩<;>simp[World.cell?,h,zi]
theorem Zu(x:RecM)(a:Option Addr)(c:Nat):(zi x a c).all (·.oneCell')=true:=by simp[zi,Value.oneCell']
theorem Zv{fn:Func}{sl b' d':Nat}{Q:Ending→World→Prop}{a:Act}{w:World}{b:Nat}{cs:Array Value}{y z:Value}(hf:fn.results= #[.cell sl 69,.tmp b',.tmp d'])(hs:a.tmps.getD sl undef= .pointer (some ⟨b,0,none⟩))(hy:a.tmps.getD b' undef=y)(hz:a.tmps.getD d' undef=z)(hd:a.defers=[])(hg:w.heap[b]? =some (.cells cs 69 (0,0)))(h3:cs.size=3)(hQ:Q (.returned (.tuple #[.agg cs,y,z])) w):
  bodyPost Tryz.prog fn Q .ret a w:=by
 subst hy hz;exact aap (v:= .tuple #[.agg cs,a.tmps.getD b' undef,a.tmps.getD d' undef]) (nL hf hs (aaT w b 69 69 _ (0,0) _ hg Tryz.underlying69 rfl (by rw[h3];exact Vv))) hd hQ
def Vw(w:World)(x:RecM)(e:Ending)(w':World):Prop:=
 ∃a c,e= .returned (.tuple #[.agg (zi x a c),.int .i64 ((vZ x).length:Int),.int .i64 0])∧oI x.body.length c∧ah (fun b=>w.heap.size≤b∧b<w'.heap.size) w' a x.body.length (x.body.map bv)∧Below w.heap.size w w'
theorem R3{S:Nat→Prop}(x:RecM)(h:zl x)(rest:List UInt8)(a:Option Addr)(n c:Nat)(w:World)(hr:ah S w a n ((vZ x++rest).map bv))(hc:n≤c)(hn:n≤1000000):
  Calls Tryz.prog 204 #[.slice a n c] w (Vw w x):=by
 have qD:=ab9 (fun a c w'=>nS x h a c w');unfold zi at qD;have hk:0≤x.kind∧x.kind≤2:=by rcases h.kind with h|h<;>omega
 have hq:=h.seq;have hb:=h.body;obtain⟨H,hH⟩:∃H,H=Qr x:=⟨_,rfl⟩;have hHl:H.length=11+x.body.length:=by rw[hH];exact IW x
 obtain⟨C,hC⟩:∃C,C=bA (mM H) 4:=⟨_,rfl⟩;have Zw:C.length=4:=by rw[hC,ay]
 have hB:vZ x=H++C:=by unfold vZ;rw[hC,hH]
 have hln:n=15+x.body.length+rest.length:=by have:=hr.length;rw[hB]at this;simp only[List.length_map,List.length_append]at this;omega
 have hbl:(vZ x).length=15+x.body.length:=sP x;obtain⟨k8,MS⟩:∃k8:UInt8,bA x.kind 1=[k8]:=⟨_,rfl⟩;have hkv:(k8.toNat:Int)=x.kind:=by
  have h9:=I8 1 x.kind hk.1 (by omega);rw[MS]at h9;simpa[rQ]using h9
 obtain⟨b0,off,rfl,-,hbw,hcc⟩:=hr.at_ (by omega);obtain⟨K,hK⟩:∃K,K=x.kind:=⟨_,rfl⟩;have q0:w.cell? ⟨b0,off,none⟩=some (.int .u8 K):=by
  have h9:=hcc 0 (by omega);rw[ab6]at h9;rw[h9,hB,hH];unfold Qr;rw[MS,hK,←hkv];rfl
 have hKd:K=1∨K=2:=by rw[hK];exact h.kind.imp id fun h=>h.1
 obtain⟨w1,hw1⟩:∃w1,w1=w.alloc (.cells #[.int .i64 0,.int .u64 0,.slice none 0 0] 69):=⟨_,rfl⟩;have hb1:Below w.heap.size w w1:=by rw[hw1];exact wall w _
 have hs1:w1.heap.size=w.heap.size+1:=by rw[hw1];simp
 have hr1:=hr.below hb1 ace;have q1:(w.alloc (.cells #[.int .i64 0,.int .u64 0,.slice none 0 0] 69)).cell? ⟨b0,off,none⟩=some (.int .u8 K):=by rw[←hw1];exact(hb1.cell (p:=⟨b0,off,none⟩) hbw).trans q0
 have hres:w1.heap[w.heap.size]? =some (.cells #[.int .i64 0,.int .u64 0,.slice none 0 0] 69 (0,0)):=by rw[hw1];exact(MapKept.heap_alloc w _).1
 have HN:=ab9 (Jd w1 w1 acf (some ⟨b0,off,none⟩) n c (vZ x++rest) (by omega) hr1);obtain⟨r3,hr3⟩:∃r3,r3=C++rest:=⟨_,rfl⟩;obtain⟨r2,hr2⟩:∃r2,r2=oO x.body++r3:=⟨_,rfl⟩;obtain⟨r1,hr1e⟩:∃r1,r1=bA x.seq 8++r2:=⟨_,rfl⟩;have U8:acd (vZ x++rest=bA x.kind 1++r1):=by
  show vZ x++rest=_;rw[hr1e,hr2,hr3,hB,hH];unfold Qr oO;simp only[List.append_assoc]
 have nH:=ab9 hr1e;have HS2:=ab9 hr2;have xV:=ab9 hr3;have HCE:=ab9 hC;have HHE:=ab9 hH;have Vx:=ab9 hB;have h3l:r3.length=4+rest.length:=by rw[hr3,List.length_append,Zw]
 obtain⟨E,hE⟩:∃E,E=11+x.body.length:=⟨_,rfl⟩;have HR1:=ab9 hr1;have HB1:=ab9 hb1;have qG:=ab9 hres;have HW1:=ab9 hw1;have hEn:E≤n:=by omega
 have hEc:E≤c:=by omega
 have e0:(0:Int)≤(E:Int):=by omega
 have Zx:=ab9 (show H.length=E by omega);have xC:=ab9 (show((vZ x).length:Int)=(E:Int)+4 by omega);have hn0:decide ((0:Int)<(n:Int))=true:=aal (by omega);have hn0':(0:Int)<(n:Int):=by omega
 have H3L:=ab9 h3l;have HEW:acd (wrap64 ((n:Int)-(r3.length:Int))=(E:Int)):=ab9 (by unfold wrap64;omega);have HEW2:acd (wrap64 ((E:Int)+4)=(E:Int)+4):=ab9 (by unfold wrap64;omega);clear h3l hr hK hkv MS hcc q0 hw1 hb1 hres hr1e hr2 hr3 hC hH hB hHl hE hr1 hln hbl;rcases hKd with rfl|rfl
 all_goals
  go_enter Tryz.func204,Tryz.ntmps204;go_wp2_with fail;rw[←HW1.o];refine HN.o.mono ?_;rintro e w2 ⟨xr,rfl,hx,hR2,hb2⟩;have HRES2:=ab9 ((hb2.block w.heap.size (by omega)).trans qG.o);have HRW2:=ab9 (HR1.o.below hb2 ace);have CB:=ab9 (Zr hR2 x.kind U8.o hk.1 (by omega));clear hR2 hb2 HN q1;go_wp2_with fail;refine CB.o.mono ?_;rintro e w3 ⟨rfl,BR,hk3⟩;have HR3:=ab9 BR;have sI:=ab9 (zG BR x.seq nH.o hq.1 (by omega));clear BR hk3 CB;go_wp2_with fail;refine sI.o.mono ?_;rintro e w4 ⟨rfl,xD,hk4⟩;have C9:=ab9 (Vu xD HS2.o (by omega));have HR4:=ab9 xD;clear xD hk4 sI HR3;go_wp2_with fail;refine C9.o.mono ?_;rintro e w5 ⟨a5,c5,rfl,hc5,CV,hR5,hk5⟩;have sZ:=ab9 hR5;have Ei:=ab9 CV;have HXR4:acd (xr<w4.heap.size):=HR4.o.at_.lt;clear hR5 hk5 C9 CV HR4;go_wp2_with fail;have G9:=ab9 (sZ.o.grow (wall w5 (.cells #[.int .i64 x.kind,.int .u64 x.seq,.slice a5 x.body.length c5] 69)));obtain⟨w6,J8⟩:∃w6,w6=w5.alloc (.cells #[.int .i64 x.kind,.int .u64 x.seq,.slice a5 x.body.length c5] 69):=⟨_,rfl⟩;have hx6:w6.heap[w5.heap.size]? =some (.cells (zi x a5 c5) 69 (0,0)):=by rw[J8];exact(MapKept.heap_alloc w5 _).1
  have hz6:w5.heap.size<w6.heap.size:=(uh.1 hx6).1;rw[←J8]at G9⊢;have qN:=ab9 J8;have HX6:=ab9 hx6;have QE:=ab9 (Ei.o.below (show Below w5.heap.size w5 w6 by rw[J8];exact wall w5 _) ace);have HXR5:acd (xr<w5.heap.size):=sZ.o.at_.lt;have HXS5:acd (w1.heap.size≤w5.heap.size):=sZ.o.below.size;clear J8 hx6 sZ Ei;refine(Zt G9.o).mono ?_;rintro e _ ⟨rfl,rfl⟩;go_wp2_with fail;rw[HEW.o];have Gi:acd (Calls Tryz.prog 149 #[ptr xr,.int .i64 4] w6 (vG w1 w6 xr C rest)):=ab9 (vH G9.o 4 xV.o Zw.symm (by omega));refine Gi.o.mono ?_;rintro e w7 ⟨a7,c7,rfl,Gc,qC,QF,Zy⟩;have tu:=ab9 qC;have HX7:acd (w7.heap[w5.heap.size]? =some (.cells (zi x a5 c5) 69 (0,0))):=ab9 ((Zy.block _ hz6 (by have:=HXR5.o;omega)).trans HX6.o);have Ej:acd (ah (fun b=>w4.heap.size≤b∧b<w5.heap.size) w7 a5 x.body.length (x.body.map bv)):=QE.o.kept Zy.size fun b hb hbw=>Zy.block b hbw fun(e:b=xr)=>by have:=HXR4.o;omega
  have jw:acd (Below w.heap.size w w7):=HB1.o.trans (QF.below.mono HB1.o.size);have Vy:acd (w7.heap[w.heap.size]? =some (.cells #[.int .i64 0,.int .u64 0,.slice none 0 0] 69 (0,0))):=(QF.below.block w.heap.size (by omega)).trans qG.o;have HRW7:acd (ah S w7 (some ⟨b0,off,none⟩) E (H.map bv)):=by
   have h9:=(HR1.o.below QF.below ace).take E;rw[aa4 hEn]at h9;have e9:((vZ x++rest).map bv).take E=H.map bv:=by
    rw[Vx.o,List.append_assoc,aaz,abp (by rw[List.length_map];exact Zx.o)]
   rwa [e9]at h9
  have HZ7:acd (w5.heap.size<w7.heap.size∧w.heap.size≤w4.heap.size):=⟨(uh.1 HX7.o).1,by have:=HXR4.o;omega⟩;clear qC QF Zy Gi G9 HX6 QE HR1 HRES2 HRW2 qG HB1;go_wp2_with fail;have hcv:∀w':World,Below w7.heap.size w7 w'→(convert 32 9 (.slice a7 4 c7)).run Tryz.prog w'= .ok (.string (strOf C)) w':=fun w' hb=>by
   have h9:=pO (c:=c7) (tu.o.below hb ace)
   rwa [Zw]at h9
  refine xG ((fun w'=>Below w7.heap.size w7 w')) ?_ fun hS=> ?_
  ·exact acf.drew
  refine aR 0 hS ?_;refine aR 1 hS ?_;refine aR 2 hS ?_;refine aR 3 hS ?_;refine aR 4 hS ?_;clear hcv;have FJ:=ab9 (GX (some ⟨b0,off,none⟩) E c H w7.drew (HRW7.o.below hS ace) (by omega));refine nK 5 fun K hK=> ?_;go_simp;refine FJ.o.mono ?_;rintro e w8 ⟨a8,n8,c8,rfl,hc8,ru,gJ⟩;have Nq:=ab9 ru;have HBX8:=ab9 gJ;have KY:=ab9 (hS.trans (gJ.mono hS.size));clear ru gJ FJ;go_wp2_with fail;refine mQ hK (KY.o) fun hS=> ?_;clear hK K;refine BQ (S':=fun w'=>Below w8.heap.size w8 w') (fun w' h=>KY.o.trans (h.mono KY.o.size)) _ _ _ _ ?_;clear hS;have hS:Below w8.heap.size w8 w8:=Below.refl _ _;have hcv:∀w':World,Below w8.heap.size w8 w'→(convert 32 9 (.slice a8 n8 c8)).run Tryz.prog w'= .ok (.string (strOf C)) w':=fun w' hb=>by
   rw[HCE.o];exact pO (c:=c8) (Nq.o.below hb ace)
  refine aR 6 hS ?_;refine aR 7 hS ?_;refine aR 8 hS ?_;clear hcv hS;refine wQ ?_;have HX8:acd (w8.heap[w5.heap.size]? =some (.cells (zi x a5 c5) 69 (0,0))):=(KY.o.block _ HZ7.o.1).trans HX7.o;have Vz:acd (w8.heap[w.heap.size]? =some (.cells #[.int .i64 0,.int .u64 0,.slice none 0 0] 69 (0,0))):=(KY.o.block _ (uh.1 Vy.o).1).trans Vy.o;have HROW8:=ab9 (Ej.o.below KY.o ace);have nG:=ab9 (jw.o.trans (KY.o.mono jw.o.size));clear HX7 Vy Ej jw tu Nq HRW7 KY HBX8;obtain⟨c0,c1,c2⟩:=zH HX8.o;go_wp2_with fail;refine(qD.o a5 c5 w8).mono ?_;rintro e w9 ⟨rfl,iT⟩;have Je:acd (w9.heap[w5.heap.size]? =some (.cells (zi x a5 c5) 69 (0,0))):=(iT.block _ (uh.1 HX8.o).1).trans HX8.o;have QG:acd (w9.heap[w.heap.size]? =some (.cells #[.int .i64 0,.int .u64 0,.slice none 0 0] 69 (0,0))):=(iT.block _ (uh.1 Vz.o).1).trans Vz.o;have HROW9:=ab9 (HROW8.o.below iT ace);have sU:=ab9 (nG.o.trans (iT.mono nG.o.size));clear iT HX8 Vz HROW8 nG c0 c1 c2;obtain⟨c0,c1,c2⟩:=zH Je.o;go_wp2_with (refine au (by rfl) 69 _ _ (by rfl) w.heap.size (zi x a5 c5) (by rfl) (by rfl) _ QG.o Vv rfl (Zu _ _ _) ?_;intro wA hsA;have HSA:=ab9 hsA;clear hsA c0 c1 c2);refine Zv rfl rfl rfl rfl rfl HSA.o.1 rfl ?_;have hk:=HSA.o.2.1;have h4:=HXR4.o;refine⟨a5,c5,by rw[xC.o];rfl,hc5,?_,HSA.o.below sU.o ace⟩;have h5:=(uh.1 Je.o).1;have hz:=hk.size;exact(HROW9.o.kept hk.size fun b hb hbw=>hk.block b hbw fun(e:b=w.heap.size)=>by omega).mono fun b hb=>⟨by omega,by omega⟩
theorem rV{w:World}{base g:Nat}{e:TypeId}{k:Nat}(hg:w.heap[g]? =some (.cells #[] e))(hb:base≤g):w.ownsRow base e k (.slice (some ⟨g,0,none⟩) 0 0) 0 []:=by
 refine⟨by simp,.inr ⟨g,0,#[],rfl,hb,hg,Nat.le_refl _,Nat.zero_le _,by simp,by simp⟩⟩
theorem ah.mF{w:World}{base:Nat}{e:TypeId}{k:Nat}{a:Option Addr}{m n c:Nat}{xs:List Value}(h:w.ownsRow base e k (.slice a m c) n xs)(hs:n*k≤maxLen):m=n∧n≤c∧ah (fun x=>base≤x∧x<w.heap.size) w a (n*k) xs:=by
 obtain⟨h1,h2⟩:=h;rcases h2 with⟨h2,rfl⟩|⟨g,cap,cur,h2,hg,hcur,h3,h4,h5,h6⟩
 ·simp only[aaJ]at h2;obtain⟨rfl,rfl,rfl⟩:=h2;have:xs=[]:=Pe (by omega);subst this;rw[Nat.zero_mul];exact⟨rfl,Nat.le_refl _,ah.nil _ _ _⟩
 ·simp only[aaJ]at h2;obtain⟨rfl,rfl,rfl⟩:=h2;have hgw:=(uh.1 hcur).1;refine⟨rfl,h3,h1,hs,fun h0=>⟨g,0,rfl,⟨hg,hgw⟩,hgw,fun i hi=> ?_⟩⟩;simp only[World.cell?,hcur,Nat.zero_add];rw[←h6,aat,if_pos hi];simp
theorem oz{P:Program}{S:Nat→Prop}{w:World}(base:Nat)(t ty e:TypeId)(i:TypeInfo)(z:Value)(k bytes:Nat)(ht:P.underlying t=some (.slice e))(hi:P.info? e=some i)(hz:i.zero=some z)
  (hsize:i.size=k)(hby:i.bytes=bytes)(hzs:z.cells.size=k)(hk:0<k)(v:Value)(n:Nat)(xs:List Value)(hown:w.ownsRow base e k v n xs)
  (A:Option Addr)(m c:Nat)(news:List Value)(hr:ah S w A (m*k) news)(h1:∀u∈news,u.oneCell'=true)(h63:n+m≤maxLen)(hbytes:(n+m)*bytes≤140737488355328)(hbase:base≤w.heap.size):
  ∃A' c' w',(Builtin.append_ #[t,t] ty #[v,.slice A m c]).run P w= .ok (.slice A' (n+m) c') w'∧w'.ownsRow base e k (.slice A' (n+m) c') (n+m) (xs++news)∧w.grownBy w' v.ownBlock∧
   ((Value.slice A' (n+m) c').ownBlock=v.ownBlock∨(Value.slice A' (n+m) c').ownBlock=some w.heap.size):=by
 rcases A with _|ad
 ·have hm:m=0:=by
   rcases aaF m with h0|h0
   ·exact h0
   ·obtain⟨_,_,h,_⟩:=hr.at_ (Nat.mul_pos h0 hk);cases h
  subst hm;have hn:news=[]:=Pe (by rw[hr.length];omega);subst hn;obtain⟨A',c',rfl,_⟩:=bG hown;refine⟨A',c',w,?_,by simpa using hown,⟨rfl,rfl,rfl,Nat.le_refl _,fun _ _ _=>rfl⟩,Or.inl rfl⟩;rcases hown.2 with⟨h2,rfl⟩|⟨g,cap,cur,h2,_,_,hnc,_⟩
  ·simp only[aaJ]at h2;obtain⟨rfl,_,rfl⟩:=h2;simp[Builtin.append_,abH ht,sizeOf,typeInfo,hi,Builtin.lenOf,Builtin.firstCells]
  ·simp only[aaJ]at h2;obtain⟨rfl,_,rfl⟩:=h2;simp[Builtin.append_,abH ht,sizeOf,typeInfo,hi,Builtin.lenOf,Builtin.firstCells,hnc,storeCells]
 ·obtain⟨v',w',hr',h2,h3,h4,h5⟩:=run_append_own_at (P:=P) w base t ty e i z k bytes ht hi hz hsize hby hzs hk v n xs hown ad m c news hr.length hr.cells h1 h63 hbytes hbase;obtain⟨A',c',rfl,_⟩:=bG h2;exact⟨A',c',w',hr',h2,h3,h5⟩
theorem ji{P:Program}{S:Nat→Prop}{w:World}{ops:Array Oper}{rest:List Oper}{o:Oper}{a:Act}{Q:Exit→Act→World→Prop}(hgd:o.guard=none)(s x:Operand)(t:TypeId)
  (ho:o.op= .call {callee:= .builtin .append,args:= #[s,x],argTypes:= #[t,t]})
  (base:Nat)(e:TypeId)(i:TypeInfo)(z:Value)(k bytes:Nat)(ht:P.underlying t=some (.slice e))(hi:P.info? e=some i)(hz:i.zero=some z)
  (hsize:i.size=k)(hby:i.bytes=bytes)(hzs:z.cells.size=k)(hk:0<k)(v:Value)(n:Nat)(xs:List Value)(hs:a.eval s=v)(hown:w.ownsRow base e k v n xs)
  (A:Option Addr)(m c:Nat)(news:List Value)(hx:a.eval x= .slice A m c)(hr:ah S w A (m*k) news)(h1:∀u∈news,u.oneCell'=true)(h63:n+m≤maxLen)(hbytes:(n+m)*bytes≤140737488355328)(hbase:base≤w.heap.size)
  (h:∀A' c' w',w'.ownsRow base e k (.slice A' (n+m) c') (n+m) (xs++news)→w.grownBy w' v.ownBlock→((Value.slice A' (n+m) c').ownBlock=v.ownBlock∨(Value.slice A' (n+m) c').ownBlock=some w.heap.size)→wpList P ops Q rest (a.put o.dst (.slice A' (n+m) c')) w'):
  wpList P ops Q (o::rest) a w:=by
 refine abI hgd fun K hK=> ?_;obtain⟨A',c',w',hr,h2,h3,h4⟩:=oz (P:=P) base t o.type e i z k bytes ht hi hz hsize hby hzs hk v n xs hown A m c news hr h1 h63 hbytes hbase;unfold Oper.wp execOp;simp only[ho,resolve,invoke,builtin,abJ,ab5,abF,abO,List.map_cons,abl,hs,hx,hr];exact hK _ _ (h A' c' w' h2 h3 h4)
theorem gP{P:Program}{S:Nat→Prop}{ops:Array Oper}{o:Oper}{a:Act}{w:World}{K:Act→World→Prop}{Q:Exit→Act→World→Prop}{E:Prop}(hgd:o.guard=none)(s x:Operand)(t:TypeId)
  (ho:o.op= .call {callee:= .builtin .append,args:= #[s,x],argTypes:= #[t,t]})
  (base:Nat)(e:TypeId)(i:TypeInfo)(z:Value)(k bytes:Nat)(ht:P.underlying t=some (.slice e))(hi:P.info? e=some i)(hz:i.zero=some z)
  (hsize:i.size=k)(hby:i.bytes=bytes)(hzs:z.cells.size=k)(hk:0<k)(v:Value)(n:Nat)(xs:List Value)(hs:a.eval s=v)(hown:w.ownsRow base e k v n xs)
  (A:Option Addr)(m c:Nat)(news:List Value)(hx:a.eval x= .slice A m c)(hr:ah S w A (m*k) news)(h1:∀u∈news,u.oneCell'=true)(h63:n+m≤maxLen)(hbytes:(n+m)*bytes≤140737488355328)(hbase:base≤w.heap.size)
  (h:∀A' c' w',w'.ownsRow base e k (.slice A' (n+m) c') (n+m) (xs++news)→w.grownBy w' v.ownBlock→((Value.slice A' (n+m) c').ownBlock=v.ownBlock∨(Value.slice A' (n+m) c').ownBlock=some w.heap.size)→K (a.put o.dst (.slice A' (n+m) c')) w'):
  if Region.wanted o (yielded ops a.tmps)=true then Oper.wp P o a w K Q else E:=by
 have hw:Region.wanted o (yielded ops a.tmps)=true:=by simp[Region.wanted,hgd]
 rw[if_pos hw];obtain⟨A',c',w',hr,h2,h3,h4⟩:=oz (P:=P) base t o.type e i z k bytes ht hi hz hsize hby hzs hk v n xs hown A m c news hr h1 h63 hbytes hbase;unfold Oper.wp execOp;simp only[ho,resolve,invoke,builtin,abJ,ab5,abF,abO,List.map_cons,abl,hs,hx,hr];exact h A' c' w' h2 h3 h4
theorem eO{P:Program}{S:Nat→Prop}{w:World}{ops:Array Oper}{rest:List Oper}{o:Oper}{a:Act}{Q:Exit→Act→World→Prop}(hgd:o.guard=none)(s x:Operand)(t:TypeId)
  (ho:o.op= .call {callee:= .builtin .append,args:= #[s,x],argTypes:= #[t,t]})
  (base:Nat)(e:TypeId)(i:TypeInfo)(z:Value)(k bytes:Nat)(ht:P.underlying t=some (.slice e))(hi:P.info? e=some i)(hz:i.zero=some z)
  (hsize:i.size=k)(hby:i.bytes=bytes)(hzs:z.cells.size=k)(hk:0<k)(v:Value)(n:Nat)(xs:List Value)(hs:a.eval s=v)(hown:w.ownsRow base e k v n xs)
  (A:Option Addr)(m c:Nat)(news:List Value)(hx:a.eval x= .slice A m c)(hr:ah S w A (m*k) news)(h1:∀u∈news,u.oneCell'=true)(h63:n+m≤maxLen)(hbytes:(n+m)*bytes≤140737488355328)(hbase:base≤w.heap.size)
  (h:∀A' c' w',w'.ownsRow base e k (.slice A' (n+m) c') (n+m) (xs++news)→Below base w w'→wpList P ops Q rest (a.put o.dst (.slice A' (n+m) c')) w'):
  wpList P ops Q (o::rest) a w:=by
 refine abI hgd fun K hK=> ?_;obtain⟨A',c',w',hr,h2,h3,h4⟩:=oz (P:=P) base t o.type e i z k bytes ht hi hz hsize hby hzs hk v n xs hown A m c news hr h1 h63 hbytes hbase;unfold Oper.wp execOp;simp only[ho,resolve,invoke,builtin,abJ,ab5,abF,abO,List.map_cons,abl,hs,hx,hr];exact hK _ _ (h A' c' w' h2 ⟨h3.os,h3.tape,h3.output,h3.size,fun b hb=>h3.block b (by omega) (fun e=>by have:=bC hown b e.symm;omega)⟩)
theorem jk{w w':World}{base:Nat}{e:TypeId}{k:Nat}{v:Value}{n:Nat}{xs:List Value}(h:w.ownsRow base e k v n xs)(hb:Below w.heap.size w w'):w'.ownsRow base e k v n xs:=by
 obtain⟨h1,h2⟩:=h;refine⟨h1,?_⟩;rcases h2 with h2|⟨g,cap,cur,h2,hg,hcur,h3⟩
 ·exact .inl h2
 ·exact .inr ⟨g,cap,cur,h2,hg,(hb.block g (uh.1 hcur).1).trans hcur,h3⟩
def R4(Q:Nat→Prop)(w:World)(vs:List Value)(x:RecM):Prop:=∃a c,vs=[.int .i64 x.kind,.int .u64 x.seq,.slice a x.body.length c]∧x.body.length≤c∧ah Q w a x.body.length (x.body.map bv)
def iL(Q:Nat→Prop)(w:World):List Value→List RecM→Prop
 |vs,[]=>vs=[]
 |vs,x::r=>∃v1 v2,vs=v1++v2∧R4 Q w v1 x∧iL Q w v2 r
theorem R4.imp{Q Q':Nat→Prop}{w w':World}(f:∀a n (l:List UInt8),ah Q w a n (l.map bv)→ah Q' w' a n (l.map bv)){vs:List Value}{x:RecM}(h:R4 Q w vs x):R4 Q' w' vs x:=by
 obtain⟨a,c,h1,h2,h3⟩:=h;exact⟨a,c,h1,h2,f _ _ _ h3⟩
theorem iL.imp{Q Q':Nat→Prop}{w w':World}(f:∀a n (l:List UInt8),ah Q w a n (l.map bv)→ah Q' w' a n (l.map bv)):∀{vs:List Value} {l:List RecM},iL Q w vs l→iL Q' w' vs l
 |_,[],h=>h
 |_,x::r,⟨v1,v2,h1,h2,h3⟩=>⟨v1,v2,h1,h2.imp f,iL.imp f h3⟩
theorem iL.below{Q:Nat→Prop}{w w':World}{vs:List Value}{l:List RecM}(h:iL Q w vs l)(hb:Below w.heap.size w w'):iL Q w' vs l:=h.imp fun _ _ _ hr=>hr.below hb ace
theorem iL.low{Q:Nat→Prop}{w:World}{vs:List Value}{l:List RecM}(h:iL Q w vs l):iL (fun b=>b<w.heap.size) w vs l:=h.imp fun _ _ _ hr=>fB hr
theorem R4.len{Q:Nat→Prop}{w:World}{vs:List Value}{x:RecM}(h:R4 Q w vs x):vs.length=3:=by
 obtain⟨a,c,h1,_⟩:=h;rw[h1];rfl
theorem iL.len{Q:Nat→Prop}{w:World}:∀{vs:List Value} {l:List RecM},iL Q w vs l→vs.length=l.length*3
 |_,[],h=>by have h1:_=[]:=h;rw[h1];rfl
 |_,x::r,⟨v1,v2,h1,h2,h3⟩=>by
  rw[h1,List.length_append,h2.len,h3.len,List.length_cons];omega
theorem iL.append{Q:Nat→Prop}{w:World}:∀{vs us:List Value} {l m:List RecM},iL Q w vs l→iL Q w us m→iL Q w (vs++us) (l++m)
 |_,_,[],_,h,k=>by have h1:_=[]:=h;rw[h1];exact k
 |_,_,x::r,_,⟨v1,v2,h1,h2,h3⟩,k=>⟨v1,v2++_,by rw[h1,List.append_assoc],h2,h3.append k⟩
theorem iL.one{Q:Nat→Prop}{w:World}:∀{vs:List Value} {l:List RecM},iL Q w vs l→∀u∈vs,u.oneCell'=true
 |_,[],h=>by have h1:_=[]:=h;rw[h1];intro u hu;cases hu
 |_,x::r,⟨v1,v2,h1,⟨a,c,h2,_⟩,h3⟩=>by
  rw[h1,h2];intro u hu;rcases aas.1 hu with hu|hu
  ·simp only[aaq,abv,or_false]at hu;rcases hu with rfl|rfl|rfl<;>rfl
  ·exact h3.one u hu
theorem iL.at_{Q:Nat→Prop}{w:World}:∀{vs:List Value} {l:List RecM} {k:Nat} {x:RecM},iL Q w vs l→l[k]? =some x→∃a c,vs[k*3]? =some (.int .i64 x.kind)∧vs[k*3+1]? =some (.int .u64 x.seq)∧vs[k*3+2]? =some (.slice a x.body.length c)∧x.body.length≤c∧ah Q w a x.body.length (x.body.map bv)
 |_,[],k,x,_,hx=>by simp at hx
 |_,y::r,0,x,⟨v1,v2,h1,h2,h3⟩,hx=>by
  have hyx:y=x:=aaH hx;subst hyx;obtain⟨a,c,e1,e2,e3⟩:=h2;subst e1 h1;exact⟨a,c,rfl,rfl,rfl,e2,e3⟩
 |_,y::r,k+1,x,⟨v1,v2,h1,h2,h3⟩,hx=>by
  obtain⟨a,c,e1,e2,e3,e4⟩:=iL.at_ h3 (k:=k) (x:=x) (by simpa using hx);have hl:=h2.len;subst h1;refine⟨a,c,?_,?_,?_,e4⟩
  ·rw[aaD (by omega),←e1];congr 1;omega
  ·rw[aaD (by omega),←e2];congr 1;omega
  ·rw[aaD (by omega),←e3];congr 1;omega
structure qc(Q:Nat→Prop)(w:World)(a:Option Addr)(n:Nat)(l:List RecM):Prop where
 at_:∃vals,ah Q w a (n*3) vals∧iL Q w vals l
theorem qc.len{Q:Nat→Prop}{w:World}{a:Option Addr}{n:Nat}{l:List RecM}(h:qc Q w a n l):l.length=n:=by
 obtain⟨vals,h1,h2⟩:=h.at_;have h3:=h2.len;have h4:=h1.length;omega
theorem qc.below{Q:Nat→Prop}{w w':World}{a:Option Addr}{n:Nat}{l:List RecM}(h:qc Q w a n l)(hb:Below w.heap.size w w'):qc Q w' a n l:=by
 obtain⟨vals,h1,h2⟩:=h.at_;exact⟨vals,h1.below hb ace,h2.below hb⟩
theorem qc.low{Q:Nat→Prop}{w:World}{a:Option Addr}{n:Nat}{l:List RecM}(h:qc Q w a n l):qc (fun b=>b<w.heap.size) w a n l:=by
 obtain⟨vals,h1,h2⟩:=h.at_;exact⟨vals,fB h1,h2.low⟩
theorem qc.cells{Q:Nat→Prop}{w:World}{a:Option Addr}{n:Nat}{l:List RecM}(h:qc Q w a n l){k:Nat}{x:RecM}(hx:l[k]? =some x):∃g off ha hc,a=some ⟨g,off,none⟩∧g<w.heap.size∧x.body.length≤hc∧ah Q w ha x.body.length (x.body.map bv)∧∀u,Below w.heap.size w u→u.cell? ⟨g,off+k*3,none⟩=some (.int .i64 x.kind)∧u.cell? ⟨g,off+k*3+1,none⟩=some (.int .u64 x.seq)∧u.cell? ⟨g,off+k*3+2,none⟩=some (.slice ha x.body.length hc):=by
 have hkl:=(aaj.1 hx).1;have hl:=h.len;obtain⟨vals,h1,h2⟩:=h.at_;obtain⟨ha,hc,e0,e1,e2,hcap,hrow⟩:=h2.at_ hx;obtain⟨g,off,rfl,-,hgw,hcell⟩:=h1.at_ (by omega);refine⟨g,off,ha,hc,rfl,hgw,hcap,hrow,fun u hb=>⟨?_,?_,?_⟩⟩
 ·exact(hb.cell (p:=⟨g,off+k*3,none⟩) hgw).trans ((hcell (k*3) (by omega)).trans e0)
 ·exact(hb.cell (p:=⟨g,off+k*3+1,none⟩) hgw).trans ((hcell (k*3+1) (by omega)).trans e1)
 ·exact(hb.cell (p:=⟨g,off+k*3+2,none⟩) hgw).trans ((hcell (k*3+2) (by omega)).trans e2)
def aW(n:Nat):Array Value:= #[.int .i64 (n:Int),.int .i64 ((n:Int)/4),.int .i64 (((n:Int)-1-2*((n:Int)/4))/8)]
theorem AQ:(Tryz.prog.info? 57).map (·.size)=some 3:=by kernel_rfl
theorem R5(n:Nat):(aW n).all (·.oneCell')=true:=by simp[aW,Value.oneCell']
theorem VA{fn:Func}{sl b':Nat}{Q:Ending→World→Prop}{a:Act}{w:World}{b:Nat}{cs:Array Value}{z:Value}(hf:fn.results= #[.cell sl 57,.tmp b'])(hs:a.tmps.getD sl undef= .pointer (some ⟨b,0,none⟩))(hz:a.tmps.getD b' undef=z)(hd:a.defers=[])(hg:w.heap[b]? =some (.cells cs 57 (0,0)))(h3:cs.size=3)(hQ:Q (.returned (.tuple #[.agg cs,z])) w):
  bodyPost Tryz.prog fn Q .ret a w:=by
 subst hz;exact aap (v:= .tuple #[.agg cs,a.tmps.getD b' undef]) (jB hf hs (aaT w b 57 57 _ (0,0) _ hg Tryz.underlying57 rfl (by rw[h3];exact AQ))) hd hQ
theorem wu(n:Nat)(h0:64≤n)(h1:n≤4096)(w:World):Calls Tryz.prog 33 #[.int .i64 (n:Int)] w fun e w'=>e= .returned (.tuple #[.agg (aW n),.int .i64 0])∧Below w.heap.size w w':=by
 have d0:decide ((n:Int)<64)=false:=aaf (by omega);have d1:decide ((4096:Int)<(n:Int))=false:=aaf (by omega);have d2:¬n<64:=by omega
 have d3:¬4096<n:=by omega
 go_enter Tryz.func33,Tryz.ntmps33;go_wp2_with fail;exact VA rfl rfl rfl rfl (MapKept.heap_alloc w _).1 rfl ⟨rfl,wall w _⟩
theorem eB{w:World}{n b:Nat}(h:w.heap[b]? =some (.cells (aW n) 57 (0,0))):w.cell? ⟨b,0,none⟩=some (.int .i64 (n:Int))∧w.cell? ⟨b,1,none⟩=some (.int .i64 ((n:Int)/4))∧w.cell? ⟨b,2,none⟩=some (.int .i64 (((n:Int)-1-2*((n:Int)/4))/8)):=by
 refine⟨?_,?_,?_⟩<;>simp[World.cell?,h,aW]
theorem j_(n:Nat)(h0:64≤n)(h1:n≤4096)(w:World):Calls Tryz.prog 160 #[.agg (aW n)] w fun e w'=>e= .returned (.bool true)∧Below w.heap.size w w':=by
 have QH:=ab9 (fun w'=>wu n h0 h1 w');obtain⟨w1,hw1⟩:∃w1,w1=w.alloc (.cells (aW n) 57):=⟨_,rfl⟩;have HB1:acd (Below w.heap.size w w1):=by rw[hw1];exact wall w _
 have hx1:w1.heap[w.heap.size]? =some (.cells (aW n) 57 (0,0)):=by rw[hw1];exact(MapKept.heap_alloc w _).1
 have BS:=ab9 hx1;have HW1:=ab9 hw1;have hz1:=(uh.1 hx1).1;unfold aW at QH HW1⊢;clear hw1 hx1;go_enter Tryz.func160,Tryz.ntmps160;go_wp2_with fail;rw[←HW1.o];refine(QH.o w1).mono ?_;rintro e w2 ⟨rfl,hb2⟩;have HB2:=ab9 (HB1.o.trans (hb2.mono HB1.o.size));have hz2:w.heap.size<w2.heap.size:=Nat.lt_of_lt_of_le hz1 hb2.size;obtain⟨c0,c1,c2⟩:=eB (((wall w2 (.cells (aW n) 57)).block _ hz2).trans ((hb2.block _ hz1).trans BS.o));unfold aW at c0 c1 c2;clear hb2;go_wp2_with fail;go_ret;exact⟨rfl,HB2.o.trans ((wall w2 _).mono HB2.o.size)⟩
theorem NM(n:Nat)(h0:64≤n)(h1:n≤4096)(i:Int)(hi:0≤i)(hi2:i<((n:Int)-1-2*((n:Int)/4))/8)(w:World):Calls Tryz.prog 145 #[.agg (aW n),.int .i64 i] w fun e w'=>e= .returned (.tuple #[.int .i64 (1+2*((n:Int)/4)+i*8),.int .i64 0])∧Below w.heap.size w w':=by
 have qD:=ab9 (fun w'=>j_ n h0 h1 w');obtain⟨w1,hw1⟩:∃w1,w1=w.alloc (.cells (aW n) 57):=⟨_,rfl⟩;have HB1:acd (Below w.heap.size w w1):=by rw[hw1];exact wall w _
 have hx1:w1.heap[w.heap.size]? =some (.cells (aW n) 57 (0,0)):=by rw[hw1];exact(MapKept.heap_alloc w _).1
 have BS:=ab9 hx1;have HW1:=ab9 hw1;have hz1:=(uh.1 hx1).1;unfold aW at qD HW1⊢;clear hw1 hx1;have d0:decide (i<0)=false:=aaf (by omega);have d1:decide (((n:Int)-1-2*((n:Int)/4))/8≤i)=false:=aaf (by omega);have hq:(n:Int)/4≤1024∧0≤(n:Int)/4:=by omega
 have hi3:i≤512:=by omega
 obtain⟨q,hqe⟩:∃q,q=(n:Int)/4:=⟨_,rfl⟩;go_enter Tryz.func145,Tryz.ntmps145;go_wp2_with fail;rw[←HW1.o];refine(qD.o w1).mono ?_;rintro e w2 ⟨rfl,hb2⟩;have HB2:=ab9 (HB1.o.trans (hb2.mono HB1.o.size));obtain⟨c0,c1,c2⟩:=eB ((hb2.block _ hz1).trans BS.o);clear hb2;go_wp2_with fail
 go_ret2
 exact⟨rfl,HB2.o⟩
theorem zI(n:Nat)(h0:64≤n)(h1:n≤4096)(k:Int)(hk:k=0∨k=1)(w:World):Calls Tryz.prog 99 #[.agg (aW n),.int .i64 k] w fun e w'=>e= .returned (.tuple #[.int .i64 (1+k*((n:Int)/4)),.int .i64 0])∧Below w.heap.size w w':=by
 have qD:=ab9 (fun w'=>j_ n h0 h1 w');obtain⟨w1,hw1⟩:∃w1,w1=w.alloc (.cells (aW n) 57):=⟨_,rfl⟩;have HB1:acd (Below w.heap.size w w1):=by rw[hw1];exact wall w _
 have hx1:w1.heap[w.heap.size]? =some (.cells (aW n) 57 (0,0)):=by rw[hw1];exact(MapKept.heap_alloc w _).1
 have BS:=ab9 hx1;have HW1:=ab9 hw1;have hz1:=(uh.1 hx1).1;unfold aW at qD HW1⊢;clear hw1 hx1;have hq:(n:Int)/4≤1024∧0≤(n:Int)/4:=by omega
 rcases hk with rfl|rfl
 all_goals
  go_enter Tryz.func99,Tryz.ntmps99;go_wp2_with fail;rw[←HW1.o];refine(qD.o w1).mono ?_;rintro e w2 ⟨rfl,hb2⟩;have HB2:=ab9 (HB1.o.trans (hb2.mono HB1.o.size));obtain⟨c0,c1,c2⟩:=eB ((hb2.block _ hz1).trans BS.o);clear hb2;go_wp2_with fail
  go_ret2
  refine⟨?_,HB2.o⟩
  first
  |rfl
  |(rw[Int.zero_mul,Int.add_zero];rfl)
  |(rw[Int.one_mul];rfl)
def tC(n:Nat):Nat→Nat→Nat
 |0,k=>k
 |f+1,k=>if k+k<n then tC n f (k+k)else k
def BU(n:Nat):Nat:=tC n n 1
theorem G_(n:Nat):∀(f k:Nat),1≤k→k<n→1≤tC n f k∧tC n f k<n
 |0,k,h,h'=>⟨h,h'⟩
 |f+1,k,h,h'=>by
  unfold tC;by_cases hk:k+k<n
  ·rw[if_pos hk];exact G_ n f (k+k) (by omega) hk
  ·rw[if_neg hk];exact⟨h,h'⟩
theorem VB{n:Nat}(h:2≤n):1≤BU n∧BU n<n:=G_ n n 1 ace (by omega)
theorem NP{n f k:Nat}(h:¬k+k<n):tC n f k=k:=by cases f<;>simp[tC,h]
theorem R6(n:Nat)(hn:n≤1000000)(w:World):Calls Tryz.prog 201 #[.int .i64 (n:Int)] w fun e w'=>e= .returned (.int .i64 (BU n:Int))∧w=w':=by
 obtain⟨P,hP⟩:∃P,P=BU n:=⟨_,rfl⟩;rw[←hP];have HP:=ab9 hP;clear hP;go_enter Tryz.func201,Tryz.ntmps201;go_wp2_with fail
 go_loopw [3] (fun v wr=>∃k f:Nat,v= .int .i64 (k:Int)∧1≤k∧k≤1000000∧n≤f+k∧tC n f k=BU n∧w=wr) (fun v _=>n-(intOf v).toNat)
 case atStart=>exact⟨1,n,rfl,Nat.le_refl _,by omega,by omega,rfl,rfl⟩
 case round=>
  obtain⟨k,f,rfl,hk,hk9,hf,hp,rfl⟩:=hrel;have HK:=ab9 hk;have HF:=ab9 hf;have HPG:=ab9 hp;by_cases hlt:k+k<n
  ·have hd:decide ((k:Int)<(n:Int)-(k:Int))=true:=aal (by omega);have hi:(k:Int)<(n:Int)-(k:Int):=by omega
   clear hp hf;go_wp2_with fail;go_roundw
   case rel=>
    obtain⟨g,rfl⟩:∃g,f=g+1:=⟨f-1,by have:=HF.o;omega⟩;refine⟨k+k,g,by go_num,by omega,by omega,by have:=HF.o;omega,?_,trivial⟩;have h9:=HPG.o;rw[tC,if_pos hlt]at h9;exact h9
   case measure=>simp[intOf];omega
  ·have hd:decide ((k:Int)<(n:Int)-(k:Int))=false:=aaf (by omega);have hi:¬(k:Int)<(n:Int)-(k:Int):=by omega
   have hkP:P=k:=by rw[HP.o,←HPG.o];exact NP hlt
   clear hp hf;go_wp2_with fail;go_ret;exact⟨rfl,Eq.refl _⟩
abbrev bor(a b:Int):Int:=bits .or .u32 a b
abbrev El(a b:Int):Int:=bits .xor .u32 a b
abbrev jC(a b:Int):Int:=bits .and .u32 a b
def Em(x:Int)(s:Nat):Int:=bor (x*2^s%4294967296) (x/2^(32-s))
theorem nM(x k:Int)(s:Nat)(w:World)(hk:bits .and .u64 (IntKind.u64.wrap k) 31=(s:Int))(h0:0<s)(h1:s<32):Calls Tryz.prog 279 #[.int .u32 x,.int .i64 k] w fun e w'=>e= .returned (.int .u32 (Em x s))∧w=w':=by
 have e1:(0:Int)≤(s:Int):=by omega
 have e2:(s:Int)≤32:=by omega
 have e3:IntKind.u64.wrap (32-(s:Int))=32-(s:Int):=by simp[IntKind.wrap,IntKind.bits,IntKind.signed];omega
 have e4:(0:Int)≤32-(s:Int):=by omega
 have e5:32-(s:Int)≤32:=by omega
 go_enter Tryz.func279,Tryz.ntmps279;go_wp2;go_ret;exact⟨rfl,rfl⟩
def loadM(a b c d:UInt8):Int:=bor (bor (bor (bor 0 ((d.toNat:Int)%4294967296)) ((c.toNat:Int)%4294967296*256%4294967296)) ((b.toNat:Int)%4294967296*65536%4294967296)) ((a.toNat:Int)%4294967296*16777216%4294967296)
theorem VD{S:Nat→Prop}(ad:Option Addr)(n c:Nat)(bs:List UInt8)(w:World)(hr:ah S w ad n (bs.map bv))(hn:4≤n):Calls Tryz.prog 278 #[.slice ad n c] w fun e w'=>e= .returned (.int .u32 (loadM (bs.getD 0 0) (bs.getD 1 0) (bs.getD 2 0) (bs.getD 3 0)))∧w=w':=by
 obtain⟨b,off,rfl,-,-,hc⟩:=hr.at_ (by omega);have hl:bs.length=n:=by simpa using hr.length
 have hm:=hr.small;unfold maxLen at hm;have q:∀i,i<4→w.cell? ⟨b,off+i,none⟩=some (bv (bs.getD i 0)):=fun i hi=>by
  rw[hc i (by omega),List.getElem?_map,List.getElem?_eq_getElem (by omega),aaX,List.getElem?_eq_getElem (by omega)];rfl
 have q0:w.cell? ⟨b,off,none⟩=some (.int .u8 ((bs.getD 0 0).toNat:Int)):=q 0 (by omega);have q1:w.cell? ⟨b,off+1,none⟩=some (.int .u8 ((bs.getD 1 0).toNat:Int)):=q 1 (by omega);have q2:w.cell? ⟨b,off+2,none⟩=some (.int .u8 ((bs.getD 2 0).toNat:Int)):=q 2 (by omega);have q3:w.cell? ⟨b,off+3,none⟩=some (.int .u8 ((bs.getD 3 0).toNat:Int)):=q 3 (by omega);generalize bs.getD 0 0=b0 at*;generalize bs.getD 1 0=b1 at*;generalize bs.getD 2 0=b2 at*;generalize bs.getD 3 0=b3 at*;have d3:((n:Int)==3)=false:=by simp;omega
 have d2:((n:Int)==2)=false:=by simp;omega
 have d1:((n:Int)==1)=false:=by simp;omega
 have d0:((n:Int)==0)=false:=by simp;omega
 have l3:(3:Int)<(n:Int):=by omega
 have l2:(2:Int)<(n:Int):=by omega
 have l1:(1:Int)<(n:Int):=by omega
 have l0:(0:Int)<(n:Int):=by omega
 clear q hc hr;go_enter Tryz.func278,Tryz.ntmps278;go_wp2;go_ret;exact⟨rfl,rfl⟩
def kM:List Int:=[1116352408,1899447441,3049323471,3921009573,961987163,1508970993,2453635748,2870763221,3624381080,310598401,607225278,1426881987,1925078388,2162078206,2614888103,3248222580,3835390401,4022224774,264347078,604807628,770255983,1249150122,1555081692,1996064986,2554220882,2821834349,2952996808,3210313671,3336571891,3584528711,113926993,338241895,666307205,773529912,1294757372,1396182291,1695183700,1986661051,2177026350,2456956037,2730485921,2820302411,3259730800,3345764771,3516065817,3600352804,4094571909,275423344,430227734,506948616,659060556,883997877,958139571,1322822218,1537002063,1747873779,1955562222,2024104815,2227730452,2361852424,2428436474,2756734187,3204031479,3329325298]
def FK:List Int:=[1779033703,3144134277,1013904242,2773480762,1359893119,2600822924,528734635,1541459225]
abbrev gq(z:Int):Value:= .int .u32 z
abbrev R7(z:Int):Int:=z%4294967296
def QI(b:List UInt8)(i:Nat):Int:=loadM ((b.drop (i*4)).getD 0 0) ((b.drop (i*4)).getD 1 0) ((b.drop (i*4)).getD 2 0) ((b.drop (i*4)).getD 3 0)
def sg0(x:Int):Int:=El (El (Em x 25) (Em x 14)) (x/8)
def sg1(x:Int):Int:=El (El (Em x 15) (Em x 13)) (x/1024)
def QJ(ws:List Int):Int:=R7 (R7 (R7 (ws.getD (ws.length-16) 0+sg0 (ws.getD (ws.length-15) 0))+ws.getD (ws.length-7) 0)+sg1 (ws.getD (ws.length-2) 0))
def fE(b:List UInt8):Nat→List Int
 |0=>(List.range 16).map (QI b)
 |n+1=>fE b n++[QJ (fE b n)]
theorem yc(b:List UInt8):∀n,(fE b n).length=16+n
 |0=>by simp[fE]
 |n+1=>by unfold fE;rw[List.length_append,yc b n];simp;omega
structure NQ where
 a:Int
 c:Int
 d:Int
 e:Int
 f:Int
 g:Int
 h:Int
 j:Int
def bnot(x:Int):Int:=bits .xor .u32 (if IntKind.u32.signed=true then-1 else IntKind.u32.max) x
def tM(s:NQ)(k w:Int):Int:=R7 (s.j+El (El (Em s.f 26) (Em s.f 21)) (Em s.f 7)+El (jC s.f s.g) (jC (bnot s.f) s.h)+k+w)
def uM(s:NQ):Int:=R7 (El (El (Em s.a 30) (Em s.a 19)) (Em s.a 10)+El (El (jC s.a s.c) (jC s.a s.d)) (jC s.c s.d))
def NR(s:NQ)(k w:Int):NQ:=⟨R7 (tM s k w+uM s),s.a,s.c,s.d,R7 (s.e+tM s k w),s.f,s.g,s.h⟩
def tF(s:NQ)(ws:List Int):Nat→NQ
 |0=>s
 |n+1=>NR (tF s ws n) (kM.getD n 0) (ws.getD n 0)
def NQ.list(s:NQ):List Int:=[s.a,s.c,s.d,s.e,s.f,s.g,s.h,s.j]
def NQ.of(h:List Int):NQ:=⟨h.getD 0 0,h.getD 1 0,h.getD 2 0,h.getD 3 0,h.getD 4 0,h.getD 5 0,h.getD 6 0,h.getD 7 0⟩
def jP(h:List Int)(b:List UInt8):List Int:=List.zipWith (fun x y=>R7 (x+y)) h (tF (NQ.of h) (fE b 48) 64).list
theorem qd(h:List Int)(b:List UInt8)(hl:h.length=8):(jP h b).length=8:=by unfold jP;rw[List.length_zipWith,hl];rfl
def runM(h:List Int):Nat→List UInt8→List Int
 |0,_=>h
 |n+1,b=>runM (jP h (b.take 64)) n (b.drop 64)
theorem jQ:∀(n:Nat) (h:List Int) (b:List UInt8),h.length=8→(runM h n b).length=8
 |0,h,b,hl=>hl
 |n+1,h,b,hl=>jQ n _ _ (qd h _ hl)
end Go.Proofs.YtmflaonodghbcaaGreatDoor
