/- permafrosttop -/
import Derived.Test.YtmflaonodghbcaaGreatDoorM45
import Derived.Test.YtmflaonodghbcaaGreatDoorM43
set_option maxRecDepth 100000
set_option maxHeartbeats 64000000
set_option linter.all false
namespace Go.Proofs.YtmflaonodghbcaaGreatDoor
open Go.ChangeShapes Go.WideShapes Go.ChangeAt Go.RowKit
theorem rplSize:(Tryz.prog.info? 51).map (·.size)=some 3:=by kernel_rfl
theorem ret_rpl{fn:Func}{sl sd:Nat}{Q:Ending→World→Prop}{a:Act}{w:World}{b:Nat}{cs:Array Value}{z:Value}(hf:fn.results= #[.cell sl 51,.tmp sd])(hs:a.tmps.getD sl undef= .pointer (some ⟨b,0,none⟩))(hz:a.tmps.getD sd undef=z)(hd:a.defers=[])(hg:w.heap[b]? =some (.cells cs 51 (0,0)))(h3:cs.size=3)(hQ:Q (.returned (.tuple #[.agg cs,z])) w):
  bodyPost Tryz.prog fn Q .ret a w:=by
 subst hz;exact aap (v:= .tuple #[.agg cs,a.tmps.getD sd undef]) (jB hf hs (aaT w b 51 51 _ (0,0) _ hg Tryz.underlying51 rfl (by rw[h3];exact rplSize))) hd hQ
theorem rof_any(n:Nat)(h0:64≤n)(h1:n≤4096)(w:World):Calls Tryz.prog 13 #[.int .i64 (n:Int)] w fun e w'=>e= .returned (.tuple #[.agg #[.int .i64 (n:Int),.int .i64 ((n:Int)/4),.int .i64 (((n:Int)-1-2*((n:Int)/4))/8)],.int .i64 0])∧Below w.heap.size w w':=by
 have d0:decide ((n:Int)<64)=false:=aaf (by omega);have d1:decide ((4096:Int)<(n:Int))=false:=aaf (by omega);have d2:¬n<64:=by omega
 have d3:¬4096<n:=by omega
 go_enter Tryz.func13,Tryz.ntmps13;go_wp2_with fail;exact ret_rpl rfl rfl rfl rfl (MapKept.heap_alloc w _).1 rfl ⟨rfl,wall w _⟩
theorem id_any(w:World):Calls Tryz.prog 12 #[] w fun e w'=>∃a,e= .returned (.slice a 16 16)∧ah (fun x=>w.heap.size≤x∧x<w'.heap.size) w' a 16 (YU.map bv)∧Below w.heap.size w w':=by
 have kc:=fun(w:World) (C:Array Value) (n c:Nat)=>Lib.run_convert_bytes_const (P:=Tryz.prog) w 32 5 C n c Tryz.underlying32 abh;go_enter Tryz.func12,Tryz.ntmps12;go_wp2_with fail;go_ret;exact⟨_,rfl,(Mx (w:=w) (YU.map bv) _ (16,17) (by decide)).mono fun x (hx:x=w.heap.size)=>by subst hx;exact⟨Nat.le_refl _,by simp⟩,wall w _⟩
section
variable{W w:World}{o:Mark}{n d:Nat}
theorem II{id b:List UInt8}{cw:Int}{k:Nat}{head:List UInt8}{next gen t:Int}(hD:dP o 1 w d n b True cw)(hM:Marks W o w)(hf:∀x,o x≠17)(hR:Rest n id b k head next gen t)(hk:k<gV n):
  Calls Tryz.prog 8 #[ptr d] w fun e w'=>∃v o' seq,e= .returned (.tuple #[ptr v,.int .i64 0])∧Step o (Mm 2) w o' w'∧fO W o' 1 2 16 w' v n d ⟨b,cw,lG t,1,⟨k,head,next,[⟨2,next,[]⟩]⟩,gen,seq,(k:Int),0,id⟩:=by
 obtain⟨hlen,x,y,z,tx,ty,hI,hN,hL,hx2,hy2,rfl,rfl,rfl⟩:=hR;refine(TY hD hM (B:=2) (by omega) (by omega) hf id x y z _ _ _ k hI hN hL hk).mono ?_;rintro e w' ⟨v,o',h1,h2,h3⟩;exact⟨v,o',z.seq,h1,h2,h3⟩
end
def P_(w:World)(n:Nat)(e:Ending)(w':World):Prop:=
 ∃d v q o' V,e= .returned (.tuple #[ptr d,ptr v,ptr q])∧fO w o' 1 2 16 w' v n d V∧Kc n V 0 0 0 1
theorem IJ(n:Nat)(h0:64≤n)(h1:n≤4096)(hr:((fV og).length:Int)≤gu n)(w:World):Calls Tryz.prog 4 #[.int .i64 (n:Int)] w (P_ w n):=by
 have HNW:=ab9 (dk_new (XO w) 1 (by omega) n h0 h1);have Ka:=ab9 (fun u=>id_any u);have QH:=ab9 (fun u=>rof_any n h0 h1 u);have HRV:=ab9 (fun u=>rvnewL ((((n:Int)-1-2*((n:Int)/4))/8)) (by omega) u);go_enter Tryz.func4,Tryz.ntmps4;go_wp2_with fail;refine HNW.o.mono ?_;rintro e w1 ⟨d,o1,rfl,hs1,hD1,hb1⟩;have hM1:=(XO w).step (fun(e:(0:Nat)=1)=>by omega) hs1;have nH:=ab9 hs1;have HD1:=ab9 hD1;have kr:=ab9 hM1;clear hs1 hD1 hb1 hM1 HNW;go_wp2_with fail;refine(Ka.o _).mono ?_;rintro e w2 ⟨a,rfl,hr2,hb2⟩;have hM2:=kr.o.grow hb2;have HFM:=ab9 (Mh (j:=2) (HD1.o.grow hb2) hM2 (by omega) (by omega) (by omega) (by omega) YU rfl hr a 16 (hr2.mono fun x hx=>⟨by
  exact Vh fun h9=>by have:=(kr.o.new _ h9).2;omega,hx.2⟩))
 have pX:=ab9 hM2;have HS2:=ab9 (nH.o.trans (Step.grow kr.o hb2));clear hr2 hb2 hM2;go_wp2_with fail;refine HFM.o.mono ?_;rintro e w3 ⟨rfl,o3,hs3,hD3⟩;have xV:=ab9 ((HS2.o.mono fun m hm=>(.inl hm:Fm 1 2 m)).trans hs3);have Ny:=pX.o.step (fun e=>by rcases e with e|e<;>omega) hs3;have hf:∀x,o3 x≠17:=fun x hx=>by
  by_cases hlt:x<w.heap.size
  ·have:=xV.o.old x hlt;rw[hx]at this;simp at this
  ·have:=(xV.o.new x (by omega) (by rw[hx];omega)).1;rw[hx]at this;rcases this with e|e<;>omega
 have hrest:=P7 (TV n h0 (List.replicate (n*128) 0) YU (by simp) rfl hr) h0 rfl hr;have Fj:=ab9 (II hD3 Ny hf hrest (by unfold gV;omega));have HRS:=ab9 hrest;have HD3:=ab9 hD3;have uJ:=ab9 Ny;clear hs3 Ny hf hrest hD3 HFM;go_wp2_with fail;refine Fj.o.mono ?_;rintro e w4 ⟨v,o4,seq,rfl,hs4,hV4⟩;have HV4:=ab9 hV4;clear hs4 hV4 Fj;go_wp2_with fail;refine(QH.o _).mono ?_;rintro e w5 ⟨rfl,hb5⟩;have HV5:=ab9 (HV4.o.grow hb5);clear hb5;go_wp2_with fail;refine(HRV.o _).mono ?_;rintro e w6 ⟨q,rfl,hb6⟩;have Tv:=ab9 ((HV5.o.grow (wall w5 _)).grow hb6);clear hb6
 have htk:Kc n ⟨fmtB n (List.replicate (n*128) 0) YU,0+10000,lG 0,1,⟨0,JF YU,1,[⟨2,1,[]⟩]⟩,2,seq,((0:Nat):Int),0,YU⟩ 0 0 0 1:=
  ⟨rfl,rfl,by show(1:Int)≤1+3*((0:Nat):Int);omega,by show(0:Int)+10000≤10000+3000*((0:Nat):Int);omega,⟨by omega,by omega⟩,Int.le_refl _,HRS.o,Nat.le_refl _,⟨Int.le_refl _,by show(1:Int)≤1+100*((0:Nat):Int);omega⟩,⟨Int.le_refl _,by show(2:Int)≤2+((0:Nat):Int);omega⟩,Waits.one (next:=1) ⟨by omega,by omega⟩,dY _⟩
 go_wp2_with fail
 go_ret3
 exact⟨d,v,q,o4,_,rfl,Tv.o,htk⟩
theorem Yo(er n:Int)(da la:Option Addr)(dl dc ll lc:Nat)(x0 x1 x2 x3 x4:Int)(x5:Bool)(w:World):(Instr.field 37 (.agg #[.int .i64 er,.int .i64 n,.slice da dl dc,.slice la ll lc,.int .i64 x0,.int .i64 x1,.int .i64 x2,.int .i64 x3,.int .u64 x4,.bool x5]) 0).run Tryz.prog w= .ok (.int .i64 er) w:=by
 kernel_rfl
theorem Qa(er n:Int)(da la:Option Addr)(dl dc ll lc:Nat)(x0 x1 x2 x3 x4:Int)(x5:Bool)(w:World):(Instr.field 37 (.agg #[.int .i64 er,.int .i64 n,.slice da dl dc,.slice la ll lc,.int .i64 x0,.int .i64 x1,.int .i64 x2,.int .i64 x3,.int .u64 x4,.bool x5]) 4).run Tryz.prog w= .ok (.agg #[.int .i64 x0,.int .i64 x1,.int .i64 x2,.int .i64 x3,.int .u64 x4,.bool x5]) w:=by
 kernel_rfl
def awA:lN:=⟨1,[47,97],[],0,0,0,0,0,[]⟩
def awB:lN:=⟨5,[],[],0,0,0,0,0,[97,119,97,107,101]⟩
def Ke:lN:=⟨6,[],[],0,0,0,5,0,[]⟩
def YW:lN:=⟨8,[47,97],[],0,0,0,0,0,[]⟩
def YX:lN:=⟨12,[47,97],[],0,0,0,0,0,[]⟩
def MF:dN:=(gB og awA).2
def J5:dN:=(gB MF awB).2
def Gy:dN:=(gB J5 Ke).2
def awR1:wK:=(gB og awA).1
def Yp:wK:=(gB MF awB).1
def awR3:wK:=(gB J5 Ke).1
def awR4:wK:=(gB Gy YW).1
def awR5:wK:=(gB Gy YX).1
def awM4:dN:=(gB Gy YW).2
def awM5:dN:=(gB Gy YX).2
theorem awe1:gB og awA=(awR1,MF):=rfl
theorem awe2:gB MF awB=(Yp,J5):=rfl
theorem awe3:gB J5 Ke=(awR3,Gy):=rfl
theorem awe4:gB Gy YW=(awR4,awM4):=rfl
theorem awe5:gB Gy YX=(awR5,awM5):=rfl
theorem awf1:awR1.er=0:=by kernel_rfl
theorem awf2:Yp.er=0:=by kernel_rfl
theorem awn2:Yp.n=5:=by kernel_rfl
theorem awf3:awR3.er=0:=by kernel_rfl
theorem awf4:awR4.er=28:=by kernel_rfl
theorem awf5:awR5.er=0:=by kernel_rfl
theorem awg5:awR5.node=some (1,⟨1,1,5,true,[97,119,97,107,101],[]⟩):=by kernel_rfl
theorem awg2:(iZ J5 Ke.fd true).isSome=true:=by kernel_rfl
theorem MG(x:lN)(h:x=awA∨x=awB∨x=Ke∨x=YW∨x=YX):wU x:=by
 rcases h with rfl|rfl|rfl|rfl|rfl<;>exact yG (by decide) (by decide) (by decide) (by decide) (by decide) (by decide) (by decide) (by decide) (by decide)
theorem Qb(x:lN)(h:x=awA∨x=awB∨x=Ke):FC x:=by
 rcases h with rfl|rfl|rfl<;>exact⟨by decide,by decide,by decide,by decide,by decide,by decide⟩
theorem Qc(x0 x1 x2 x3 x4:Int)(x5:Bool)(w:World):(Instr.field 35 (.agg #[.int .i64 x0,.int .i64 x1,.int .i64 x2,.int .i64 x3,.int .u64 x4,.bool x5]) 3).run Tryz.prog w= .ok (.int .i64 x3) w:=by
 kernel_rfl
theorem Qd{W w:World}{o:Mark}{sb v n d:Nat}{V V':Co}{x:lN}{r:wK}{M':dN}(h:fO W o 1 2 sb w v n d V)(hsb:sb=2∨sb=16)(hcs:V.cs≤100000000)(hx:wU x)(hF:CK x)(he:gB V.M x=(r,M'))(hC:mJ n V x M' r.er V')(da:Option Addr)(dc:Nat)(hda:ah (Free o w) w da x.data.length (x.data.map bv))(hdc:x.data.length≤dc)(m:Int)(hm:W.cell? ⟨2,0,none⟩=some (.int .i64 m))(vv:Value)(hv:vv= .agg (opC x da dc)):
  Calls Tryz.prog 6 #[ptr v,vv] w (PW W o 1 2 w v n d V' r):=by
 subst hv;have h9:=vdo_any h (by omega) (by omega) (by omega) hsb hcs x hx hF V' (by rw[he];exact hC) da dc hda m hdc hm;rw[he]at h9;exact h9
theorem MH{V:Co}(h:Kc 100 V 0 0 0 1):∃V1 V2 V3 V5,(V.M=og∧V.cs≤10)∧mJ 100 V awA MF awR1.er V1∧(V1.M=MF∧V1.cs≤10)∧mJ 100 V1 awB J5 Yp.er V2∧(V2.M=J5∧V2.cs≤10)∧mJ 100 V2 Ke Gy awR3.er V3∧(V3.M=Gy∧V3.cs≤10)∧mJ 100 V3 YW awM4 awR4.er V3∧mJ 100 V3 YX awM5 awR5.er V5:=by
 have hnx:=h.next;have hse:=h.sealed;have hcs:=h.cs;have hc:=h.c;have hn:gV 100=6:=by decide
 have hM:V.M=og:=h.mm;obtain⟨t1,w1⟩:=Dp (n:=100) (x:=awA) h.wait (by omega) (by omega) ⟨by omega,by omega⟩ (bs:=Mr awA) (by decide) (by decide) (fun da dc w S _ _=>PS awA (Qb _ (by simp)) (by show((1:Int),_)∈mI;unfold mI;simp) da dc w);obtain⟨V1,hV1⟩:∃V1:Co,V1=⟨V.b,V.c,MF,V.cs+1,CO V (Mr awA),V.gen,V.seq,V.dx,V.recs,V.id⟩:=⟨_,rfl⟩;have e1:V1.L=CO V (Mr awA):=by rw[hV1]
 have w1':Waits V1.L.next V1.L.wait 2:=by rw[e1];exact w1
 have n1:V1.L.next=V.L.next:=by rw[e1];rfl
 have s1:V1.L.sealed=V.L.sealed:=by rw[e1];rfl
 have d1:V1.L.head=V.L.head:=by rw[e1];rfl
 obtain⟨t2,w2⟩:=Dp (n:=100) (x:=awB) w1' (by omega) (by omega) ⟨by omega,by omega⟩ (bs:=Cn awB) (by decide) (by decide) (fun da dc w S hr hdc=>Ms awB (Qb _ (by simp)) (by show((5:Int),_)∈mI;unfold mI;simp) da dc w hr hdc);obtain⟨V2,hV2⟩:∃V2:Co,V2=⟨V1.b,V1.c,J5,V1.cs+1,CO V1 (Cn awB),V1.gen,V1.seq,V1.dx,V1.recs,V1.id⟩:=⟨_,rfl⟩;have e2:V2.L=CO V1 (Cn awB):=by rw[hV2]
 have w2':Waits V2.L.next V2.L.wait 3:=by rw[e2];exact w2
 have n2:V2.L.next=V1.L.next:=by rw[e2];rfl
 have s2:V2.L.sealed=V1.L.sealed:=by rw[e2];rfl
 have d2:V2.L.head=V1.L.head:=by rw[e2];rfl
 obtain⟨t3,w3⟩:=Dp (n:=100) (x:=Ke) w2' (by omega) (by omega) ⟨by omega,by omega⟩ (bs:=Ae Ke) (by decide) (by decide) (fun da dc w S _ _=>Mt Ke (Qb _ (by simp)) (by show((6:Int),_)∈mI;unfold mI;simp) da dc w);have hf:=w3.few;have hM1:V1.M=MF:=by rw[hV1]
 have hM2:V2.M=J5:=by rw[hV2]
 have hc1:V1.cs=V.cs+1:=by rw[hV1]
 have hc2:V2.cs=V1.cs+1:=by rw[hV2]
 have hk1:V1.c=V.c:=by rw[hV1]
 have hk2:V2.c=V1.c:=by rw[hV2]
 have hsg:CJ V2.L.sealed V2.L.next V2.L.head (CO V2 (Ae Ke)).wait:=⟨⟨by omega,by omega⟩,⟨by omega,by omega⟩,by rw[d2,d1];exact h.head,by show V2.L.wait++[_]≠[];simp,by omega,fun x hx=>(w3.recs x hx).1,Nat.le_trans (size_le _ w3.recs) (by omega),w3.Oa⟩;refine⟨V1,V2,⟨Cq 100 V2.b (CO V2 (Ae Ke)),V2.c+8,Gy,V2.cs+1,gM (CO V2 (Ae Ke)),V2.gen,V2.seq,V2.dx,V2.recs,V2.id⟩,_,⟨hM,by omega⟩,?_,⟨hM1,by omega⟩,?_,⟨hM2,by omega⟩,?_,⟨rfl,by show V2.cs+1≤10;omega⟩,.no (by rw[awf4];decide),.look awf5 (by decide) rfl⟩
 ·rw[hV1];exact .turn _ awf1 t1 rfl
 ·rw[hV2];exact .turn _ awf2 t2 rfl
 ·exact .close _ awf3 t3 (by rw[hM2,awg2];rfl) hsg (by omega)
theorem IK(w:World)(m:Int)(hm:w.cell? ⟨2,0,none⟩=some (.int .i64 m)):Calls Tryz.prog 9 #[] w fun e w'=>e= .returned (.bool true)∧Below w.heap.size w w':=by
 have kc:=fun(w:World) (C:Array Value) (n c:Nat)=>Lib.run_convert_bytes_const (P:=Tryz.prog) w 32 5 C n c Tryz.underlying32 abh;have hfl2:=Qa;have hfl3:=Qc;have HM:=ab9 hm;clear hm;have Xo:acd (Calls Tryz.prog 4 #[.int .i64 100] w (P_ w 100)):=ab9 (IJ 100 (by omega) (by omega) (by decide) w);go_enter Tryz.func9,Tryz.ntmps9;go_wp2_with fail;refine Xo.o.mono ?_;rintro e w1 ⟨d,v,q,o1,V0,rfl,hV0,htk⟩;obtain⟨V1,V2,V3,V5,⟨hm0,hc0⟩,hC1,⟨hm1,hc1⟩,hC2,⟨hm2,hc2⟩,YV,⟨MP,hc3⟩,hC4,hC5⟩:=MH htk;have MZ:=ab9 hV0;clear hV0 htk Xo;have CB:=ab9 (Qd MZ.o (.inr rfl) (by omega) (MG _ (by simp)) (by simp[CK,awA,awB,Ke,YW,YX]) (by rw[hm0];exact awe1) hC1 none 0 (ah.nil _ _ _) (by decide) m HM.o (opA 1 ⟨#[47,97]⟩ ⟨#[]⟩ 0 0 0 0 0 none 0 0) rfl);go_wp2_with fail;refine CB.o.mono ?_;rintro e u1 ⟨p1,s1,W9,⟨y1,rfl,da1,la1,dc1,lc1,rfl,p1,p2,p3,p4⟩,hs,hV⟩;have HSB1:=ab9 W9;have HVC1:=ab9 hV;have HR1:=ab9 (And.intro p1 (And.intro p2 (And.intro p3 p4)));clear hs hV p1 p2 p3 p4 W9 CB MZ;go_wp2_with (refine au (by rfl) 37 _ _ (by rfl) _ (gZ awR1 da1 la1 dc1 lc1) (by rfl) (by rfl) _ (MapKept.heap_alloc _ _).1 bZ rfl (cO _ _ _ _ _) ?_;intro YZ hs;obtain⟨hv,hb⟩:=uf HVC1.o.marks HR1.o.1 HR1.o.2.1 HR1.o.2.2.1 HR1.o.2.2.2 hs;have HP1:=ab9 hv;have HVD1:=ab9 (HVC1.o.grow hb);clear hs hv hb HR1 HVC1);have hbb:Below YZ.heap.size YZ (YZ.alloc (.cells #[.int .u8 97,.int .u8 119,.int .u8 97,.int .u8 107,.int .u8 101] 5 (5,6))):=wall YZ _;have HVB2:=ab9 (HVD1.o.grow hbb);have HP1b:=ab9 (HP1.o.grow HVD1.o.marks hbb);have hrow:ah (Free p1 (YZ.alloc (.cells #[.int .u8 97,.int .u8 119,.int .u8 97,.int .u8 107,.int .u8 101] 5 (5,6)))) (YZ.alloc (.cells #[.int .u8 97,.int .u8 119,.int .u8 97,.int .u8 107,.int .u8 101] 5 (5,6))) (some ⟨YZ.heap.size,0,none⟩) 5 (awB.data.map bv):=(Mx (([97,119,97,107,101]:List UInt8).map bv) _ (5,6) (by decide)).mono fun y (hy:y=YZ.heap.size)=>by subst hy;exact⟨Vh fun h9=>by have:=(HVD1.o.marks.new _ h9).2;omega,by simp⟩
 have sI:=ab9 (Qd HVB2.o HSB1.o (by omega) (MG _ (by simp)) (by simp[CK,awA,awB,Ke,YW,YX]) (by rw[hm1];exact awe2) hC2 (some ⟨YZ.heap.size,0,none⟩) 5 hrow (by decide) m HM.o (opA 5 ⟨#[]⟩ ⟨#[]⟩ 0 0 0 0 0 (some ⟨YZ.heap.size,0,none⟩) 5 5) rfl);clear hbb hrow HVD1 HP1;go_wp2_with fail;refine sI.o.mono ?_;rintro e u2 ⟨p2,s2,yN,⟨y2,rfl,da2,la2,dc2,lc2,rfl,p1,p2,p3,p4⟩,hs,hV⟩;have HSB2:=ab9 yN;have HVC2:=ab9 hV;have HR2:=ab9 (And.intro p1 (And.intro p2 (And.intro p3 p4)));have HP1bs:=ab9 (HP1b.o.step (fun e=>by rcases e with e|e<;>omega) hs);clear hs hV p1 p2 p3 p4 yN sI HVB2 HP1b;go_wp2_with (refine au (by rfl) 37 _ _ (by rfl) _ (gZ Yp da2 la2 dc2 lc2) (by rfl) (by rfl) _ (MapKept.heap_alloc _ _).1 bZ rfl (cO _ _ _ _ _) ?_;intro w2v hs;obtain⟨hv,hb⟩:=uf HVC2.o.marks HR2.o.1 HR2.o.2.1 HR2.o.2.2.1 HR2.o.2.2.2 hs;have YN:=ab9 hv;have HVD2:=ab9 (HVC2.o.grow hb);have Yq:=ab9 (HP1bs.o.grow HVC2.o.marks hb);clear hs hv hb HR2 HVC2 HP1bs);have C9:=ab9 (Qd HVD2.o HSB2.o (by omega) (MG _ (by simp)) (by simp[CK,awA,awB,Ke,YW,YX]) (by rw[hm2];exact awe3) YV none 0 (ah.nil _ _ _) (by decide) m HM.o (opA 6 ⟨#[]⟩ ⟨#[]⟩ 0 0 0 5 0 none 0 0) rfl);go_wp2_with fail;refine C9.o.mono ?_;rintro e u3 ⟨p3,s3,NT,⟨y3,rfl,da3,la3,dc3,lc3,rfl,p1,p2,p3,p4⟩,hs,hV⟩;have HSB3:=ab9 NT;have Yr:=ab9 hV;have HR3:=ab9 (And.intro p1 (And.intro p2 (And.intro p3 p4)));have Rl:=ab9 (Yq.o.step (fun e=>by rcases e with e|e<;>omega) hs);have HP2s:=ab9 (YN.o.step (fun e=>by rcases e with e|e<;>omega) hs);clear hs hV p1 p2 p3 p4 NT C9 HVD2 Yq YN;go_wp2_with (refine au (by rfl) 37 _ _ (by rfl) _ (gZ awR3 da3 la3 dc3 lc3) (by rfl) (by rfl) _ (MapKept.heap_alloc _ _).1 bZ rfl (cO _ _ _ _ _) ?_;intro w3v hs;obtain⟨hv,hb⟩:=uf Yr.o.marks HR3.o.1 HR3.o.2.1 HR3.o.2.2.1 HR3.o.2.2.2 hs;have HP3:=ab9 hv;have HVD3:=ab9 (Yr.o.grow hb);have MI:=ab9 (Rl.o.grow Yr.o.marks hb);have HP2sg:=ab9 (HP2s.o.grow Yr.o.marks hb);clear hs hv hb HR3 Yr Rl HP2s);have Gi:=ab9 (Qd HVD3.o HSB3.o (by omega) (MG _ (by simp)) (by simp[CK,awA,awB,Ke,YW,YX]) (by rw[MP];exact awe4) hC4 none 0 (ah.nil _ _ _) (by decide) m HM.o (opA 8 ⟨#[47,97]⟩ ⟨#[]⟩ 0 0 0 0 0 none 0 0) rfl);go_wp2_with fail;refine Gi.o.mono ?_;rintro e u4 ⟨p4,s4,hsb4,⟨y4,rfl,FV,FW,FX,FY,rfl,p1,p2,p3,p4⟩,hs,hV⟩;have HSB4:=ab9 hsb4;have Uf:=ab9 hV;have HR4:=ab9 (And.intro p1 (And.intro p2 (And.intro p3 p4)));have IL:=ab9 (MI.o.step (fun e=>by rcases e with e|e<;>omega) hs);have Yt:=ab9 (HP2sg.o.step (fun e=>by rcases e with e|e<;>omega) hs);have HP3s:=ab9 (HP3.o.step (fun e=>by rcases e with e|e<;>omega) hs);clear hs hV p1 p2 p3 p4 hsb4 Gi HVD3 MI HP2sg HP3;go_wp2_with (refine au (by rfl) 37 _ _ (by rfl) _ (gZ awR4 FV FW FX FY) (by rfl) (by rfl) _ (MapKept.heap_alloc _ _).1 bZ rfl (cO _ _ _ _ _) ?_;intro w4v hs;obtain⟨hv,hb⟩:=uf Uf.o.marks HR4.o.1 HR4.o.2.1 HR4.o.2.2.1 HR4.o.2.2.2 hs;have HP4:=ab9 hv;have HVD4:=ab9 (Uf.o.grow hb);have Qe:=ab9 (IL.o.grow Uf.o.marks hb);have HP2sgsg:=ab9 (Yt.o.grow Uf.o.marks hb);have HP3sg:=ab9 (HP3s.o.grow Uf.o.marks hb);clear hs hv hb HR4 Uf IL Yt HP3s;have c1:=Qe.o.er;rw[awf1]at c1;have c2:=HP2sgsg.o.n;rw[awn2]at c2;have c3:=HP3sg.o.er;rw[awf3]at c3;have c4:=HP4.o.er;rw[awf4]at c4;have HCS:=ab9 (Qd HVD4.o HSB4.o (by omega) (MG _ (by simp)) (by simp[CK,awA,awB,Ke,YW,YX]) (by rw[MP];exact awe5) hC5 none 0 (ah.nil _ _ _) (by decide) m HM.o (opA 12 ⟨#[47,97]⟩ ⟨#[]⟩ 0 0 0 0 0 none 0 0) rfl));refine HCS.o.mono ?_;rintro e uS ⟨pS,sS,hsbS,⟨yS,rfl,daS,laS,dcS,lcS,rfl,p1,p2,p3,p4⟩,hs,hV⟩;have HVS:=ab9 hV;unfold gZ;rw[awg5];clear hs hV p1 p2 p3 p4 hsbS;go_wp2_with fail;go_ret;exact⟨rfl,HVS.o.marks.below⟩
end Go.Proofs.YtmflaonodghbcaaGreatDoor
