/- package -/
import Derived.Test.YtmflaonodghbcaaGreatDoorM35
import Derived.Test.YtmflaonodghbcaaGreatDoorM19
import Derived.Test.YtmflaonodghbcaaGreatDoorM29
import Derived.Test.YtmflaonodghbcaaGreatDoorM30
import Derived.Test.YtmflaonodghbcaaGreatDoorM26
import Derived.Test.YtmflaonodghbcaaGreatDoorM15
import Derived.Test.YtmflaonodghbcaaGreatDoorM17
import Derived.Test.YtmflaonodghbcaaGreatDoorM21
import Derived.Test.YtmflaonodghbcaaGreatDoorM18
import Derived.Laws.Tables
set_option maxRecDepth 100000
set_option maxHeartbeats 64000000
set_option linter.all false
namespace Go.Proofs.YtmflaonodghbcaaGreatDoor
open Go.ChangeShapes Go.WideShapes Go.ChangeAt Go.RowKit
theorem beB_low(n:Int)(h:0≤n):bA n 2=bA (n%65536) 2:=by
 have e:∀n:Int,bA n 2=[UInt8.ofNat ((n/256).toNat%256),UInt8.ofNat ((n/1).toNat%256)]:=fun n=>rfl;rw[e,e];congr 2
 ·omega
 ·congr 1;omega
theorem or16(c:Int)(h0:0≤c)(h1:c<4294967296):bits .or .u32 (c/65536*65536) (c%65536)=c:=by
 obtain⟨k,rfl⟩:∃k:Nat,c=k:=⟨c.toNat,by omega⟩;have h:=u32_or_nat (2^16*(k/65536)) (k%65536) (by omega) (by omega);rw[←Nat.two_pow_add_eq_or_of_lt (by omega)]at h;rw[show(k:Int)/65536*65536=((2^16*(k/65536):Nat):Int)by omega,show(k:Int)%65536=((k%65536:Nat):Int)by omega,h];omega
theorem yx:(Tryz.prog.info? 91).map (·.size)=some 5:=by kernel_rfl
theorem ret_mk{fn:Func}{sl b':Nat}{Q:Ending→World→Prop}{a:Act}{w:World}{b:Nat}{cs:Array Value}{z:Value}(hf:fn.results= #[.cell sl 91,.tmp b'])(hs:a.tmps.getD sl undef= .pointer (some ⟨b,0,none⟩))(hz:a.tmps.getD b' undef=z)(hd:a.defers=[])(hg:w.heap[b]? =some (.cells cs 91 (0,0)))(h6:cs.size=5)(hQ:Q (.returned (.tuple #[.agg cs,z])) w):
  bodyPost Tryz.prog fn Q .ret a w:=by
 subst hz;exact aap (v:= .tuple #[.agg cs,a.tmps.getD b' undef]) (jB hf hs (aaT w b 91 91 _ (0,0) _ hg Tryz.underlying91 rfl (by rw[h6];exact yx))) hd hQ
def MkRet(w:World)(x:wT)(e:Ending)(w':World):Prop:=
 ∃ha hc sa sc,e= .returned (.tuple #[.agg (n_ x ha hc sa x.state.length sc),.int .i64 0])∧ah (fun b=>w.heap.size≤b∧b<w'.heap.size) w' ha 32 (x.head.map bv)∧32≤hc∧ah (fun b=>w.heap.size≤b∧b<w'.heap.size) w' sa x.state.length (x.state.map bv)∧x.state.length≤sc∧Below w.heap.size w w'
theorem Xn{S:Nat→Prop}(n:Nat)(h0:64≤n)(h1:n≤4096)(x:wT)(h:Bu n x)(hroom:(x.state.length:Int)≤gu n)(a:Option Addr)(N c:Nat)(hN:N=128*(n/4))(w:World)(hr:ah S w a N ((xJ n x).map bv))(hc:N≤c):Calls Tryz.prog 210 #[.agg (aW n),.slice a N c] w (MkRet w x):=by
 have g1:=h.gen;have g2:=h.seq;have g3:=h.dx;have Za:=h.head;have hml:=JG h;obtain⟨sn,hsn⟩:∃sn,sn=x.state.length:=⟨_,rfl⟩;have hrp:gu n=(N:Int)-94:=by unfold gu;omega
 have hNn:(N:Int)=128*((n:Int)/4):=by omega
 have hN9:N≤131072:=by omega
 have hN8:2048≤N:=by omega
 rw[←hsn]at hroom;have Gd:sn+94≤N:=by omega
 obtain⟨b0,o0,rfl,-,hbw0,-⟩:=hr.at_ (by omega);obtain⟨H,hH⟩:∃H,H=Q5 x:=⟨_,rfl⟩;obtain⟨cr,hcr⟩:∃cr,cr=mM (Q5 x):=⟨_,rfl⟩;have Le:0≤cr∧cr<4294967296:=by rw[hcr];exact mR _
 obtain⟨Z,hZ⟩:∃Z,Z=List.replicate (N-(94+sn)) (0:UInt8):=⟨_,rfl⟩;obtain⟨r8,ru⟩:∃r8,r8=x.state++Z:=⟨_,rfl⟩;obtain⟨r7,qC⟩:∃r7,r7=kg x.state++r8:=⟨_,rfl⟩;obtain⟨r6,A_⟩:∃r6,r6=bA (cr%65536) 2++r7:=⟨_,rfl⟩;obtain⟨r5,CV⟩:∃r5,r5=bA (cr/65536) 2++r6:=⟨_,rfl⟩;obtain⟨r4,hr4⟩:∃r4,r4=bA (sn:Int) 8++r5:=⟨_,rfl⟩;obtain⟨r3,hr3⟩:∃r3,r3=x.head++r4:=⟨_,rfl⟩;obtain⟨r2,hr2⟩:∃r2,r2=bA x.dx 2++r3:=⟨_,rfl⟩;obtain⟨r1,hr1⟩:∃r1,r1=bA x.seq 8++r2:=⟨_,rfl⟩;obtain⟨B,hB⟩:∃B,B=xJ n x:=⟨_,rfl⟩;rw[←hB]at hr;have hB2:B=H++(bA (cr/65536) 2++(bA (cr%65536) 2++(kg x.state++(x.state++Z)))):=by
  rw[hB];unfold xJ;rw[←hcr,←hH,beB_low cr Le.1,hZ,←hsn,show(gu n-(sn:Int)).toNat=N-(94+sn)by omega];simp only[List.append_assoc]
 have U8:acd (B=bA x.gen 8++r1):=by
  show B=_;rw[hB2,hr1,hr2,hr3,hr4,CV,A_,qC,ru,hH];unfold Q5;rw[←hsn];simp only[List.append_assoc]
 have HB2_:=ab9 hB2;have nH:=ab9 hr1;have HS2:=ab9 hr2;have xV:=ab9 hr3;have pV:=ab9 hr4;have jV:=ab9 CV;have mK:=ab9 A_;have HS7:=ab9 qC;have Ut:=ab9 ru;have HZ_:=ab9 hZ;have Fg:=ab9 hsn;have gN:=ab9 (fB hr);rw[←hH]at hml hcr;have ZN:=ab9 hcr;have qD:=ab9 (fun w'=>j_ n h0 h1 w');have HPR:=ab9 (fun ha hc sa sn sc w'=>Fe n h0 h1 x h ha hc sa sn sc w');have Un:=ab9 (fun w'=>Ip n h0 h1 w');obtain⟨w2,hw2⟩:∃w2,w2=(w.alloc (.cells (aW n) 57)).alloc (.cells #[.int .u64 0,.int .u64 0,.int .i64 0,.slice none 0 0,.slice none 0 0] 91):=⟨_,rfl⟩;have hz1:(w.alloc (.cells (aW n) 57)).heap.size=w.heap.size+1:=by simp
 have hb1:=wall w (.cells (aW n) 57);have hb2:=wall (w.alloc (.cells (aW n) 57)) (.cells #[.int .u64 0,.int .u64 0,.int .i64 0,.slice none 0 0,.slice none 0 0] 91);have hm2:=(MapKept.heap_alloc (w.alloc (.cells (aW n) 57)) (.cells #[.int .u64 0,.int .u64 0,.int .i64 0,.slice none 0 0,.slice none 0 0] 91)).1;have hp1:=(MapKept.heap_alloc w (.cells (aW n) 57)).1;rw[hz1]at hm2;rw[←hw2]at hm2 hb2;have hp2:=(hb2.block w.heap.size (by omega)).trans hp1;have hz2:w.heap.size+1<w2.heap.size:=(uh.1 hm2).1;have OY:=ab9 (hb1.trans (hb2.mono hb1.size));have HP:acd (∀u,Below w2.heap.size w2 u→u.cell? ⟨w.heap.size,0,none⟩=some (.int .i64 (n:Int))∧u.cell? ⟨w.heap.size,1,none⟩=some (.int .i64 ((n:Int)/4))∧u.cell? ⟨w.heap.size,2,none⟩=some (.int .i64 (((n:Int)-1-2*((n:Int)/4))/8))):=ab9 fun u hb=>eB ((hb.block w.heap.size (by omega)).trans hp2);have qG:=ab9 hm2;have HW2:=ab9 hw2;have HN:=ab9 (fun u (hb:Below w2.heap.size w2 u)=>Jd w2 u hb (some ⟨b0,o0,none⟩) N c B (by omega) (gN.o.below (OY.o.trans (hb.mono OY.o.size)) ace));have em:IntKind.i64.wrap (128*((n:Int)/4))=(N:Int):=by rw[aah _ (by omega)];omega
 have ewr:IntKind.u64.wrap (gu n)=gu n:=by simp[IntKind.wrap,IntKind.bits,IntKind.signed];omega
 have EWR:=ab9 ewr;have drr:decide (gu n<(sn:Int))=false:=aaf (by omega);unfold aW at qD HPR Un HW2⊢;unfold n_ at HPR;obtain⟨p0,p1,p2⟩:=HP.o w2 acf;clear h hr hr1 hr2 hr3 hr4 CV A_ qC ru hB hB2 hH hZ hw2 hz1 hb1 hb2 hm2 hp1 hp2 hN hNn hsn hcr hrp ewr;go_enter Tryz.func210,Tryz.ntmps210;go_wp2_with fail;rw[←HW2.o];refine(qD.o w2).mono ?_;rintro e w3 ⟨rfl,hb3⟩;have HB3:=ab9 hb3;clear p0 p1 p2 hb3;obtain⟨p0,p1,p2⟩:=HP.o w3 HB3.o;go_wp2_with fail;refine(HN.o w3 HB3.o).mono ?_;rintro e w4 ⟨xr,rfl,VW,hR,hb4⟩;have hx4:xr<w4.heap.size:=hR.at_.lt;have HC:=ab9 (zG hR x.gen U8.o (by omega) (by omega));have hs3:=HB3.o.size;clear HN hR hb4 p0 p1 p2;go_wp2_with fail;refine HC.o.mono ?_;rintro e w5 ⟨rfl,hR,hk⟩;have hs5:=hk.size;clear HC hk;have HC:=ab9 (zG hR x.seq nH.o (by omega) (by omega));clear hR;go_wp2_with fail;refine HC.o.mono ?_;rintro e w6 ⟨rfl,hR,hk⟩;have hs6:=hk.size;clear HC hk;have HC:=ab9 (nW hR x.dx HS2.o (by omega) (by omega));clear hR;go_wp2_with fail;refine HC.o.mono ?_;rintro e w7 ⟨rfl,hR,hk⟩;have hs7:=hk.size;clear HC hk;have HC:acd (Calls Tryz.prog 149 #[ptr xr,.int .i64 32] w7 (vG w2 w7 xr x.head r4)):=vH hR 32 xV.o Za.symm (by omega);clear hR;go_wp2_with fail;refine HC.o.mono ?_;rintro e w8 ⟨a8,c8,rfl,hc8,ru,hR8,MS⟩;rw[Za]at ru hc8⊢;have Aj:=MS.size;clear HC;have HRH8:=ab9 ru;obtain⟨w9,Cg⟩:∃w9,w9=w8.alloc (.cells #[.int .u64 x.gen,.int .u64 x.seq,.int .i64 x.dx,.slice a8 32 c8,.slice none 0 0] 91):=⟨_,rfl⟩;have iT:Below w8.heap.size w8 w9:=by rw[Cg];exact wall w8 _
 have CG:w9.heap[w8.heap.size]? =some (.cells #[.int .u64 x.gen,.int .u64 x.seq,.int .i64 x.dx,.slice a8 32 c8,.slice none 0 0] 91 (0,0)):=by rw[Cg];exact(MapKept.heap_alloc w8 _).1
 have hz9:w8.heap.size<w9.heap.size:=(uh.1 CG).1;have HRH9:=ab9 (ru.below iT ace);have Je:=ab9 CG;have hR:=hR8.grow iT;clear ru hR8 MS iT CG HRH8;go_wp2_with fail;rw[←Cg];clear Cg;have HC:=ab9 (zG hR (sn:Int) pV.o (by omega) (by omega));clear hR;refine HC.o.mono ?_;rintro e wA ⟨rfl,hR,hkA⟩;have hsA:=hkA.size;have YK:=ab9 hkA;clear HC hkA;have HC:=ab9 (nW hR (cr/65536) jV.o (by omega) (by omega));clear hR;go_wp2_with fail;refine HC.o.mono ?_;rintro e wB ⟨rfl,hR,hkB⟩;have hsB:=hkB.size;have HKB:=ab9 hkB;clear HC hkB;have HC:=ab9 (nW hR (cr%65536) mK.o (by omega) (by omega));clear hR;go_wp2_with fail;refine HC.o.mono ?_;rintro e wC ⟨rfl,hR,OX⟩;have hsC:=OX.size;have HKC:=ab9 OX;clear HC OX;have HC:acd (Calls Tryz.prog 149 #[ptr xr,.int .i64 32] wC (vG w2 wC xr (kg x.state) r8)):=vH hR 32 HS7.o (dY _).symm (by rw[dY];omega);clear hR;have eor:=or16 cr Le.1 Le.2;go_wp2_with fail;clear eor;refine HC.o.mono ?_;rintro e wD ⟨aD,cD,rfl,hcD,hrD,hRD,YQ⟩;rw[dY]at hrD hcD⊢;have hsD:=YQ.size;have zR:=ab9 hRD;have HROWD:=ab9 hrD;have hxne:xr<w8.heap.size:=by omega
 have HX:acd (wD.heap[w8.heap.size]? =some (.cells #[.int .u64 x.gen,.int .u64 x.seq,.int .i64 x.dx,.slice a8 32 c8,.slice none 0 0] 91 (0,0))):=ab9 ((YQ.block _ (by omega) (fun(e:_=xr)=>by omega)).trans ((HKC.o.block _ (by omega) (fun(e:_=xr)=>by omega)).trans ((HKB.o.block _ (by omega) (fun(e:_=xr)=>by omega)).trans ((YK.o.block _ hz9 (fun(e:_=xr)=>by omega)).trans Je.o))));have tN:=ab9 (hRD.below);have HRH:acd (ah (fun b=>w7.heap.size≤b∧b<w8.heap.size) wD a8 32 (x.head.map bv)):=ab9 (((((HRH9.o.kept hsA fun b hb hbw=>YK.o.block b hbw fun(e:b=xr)=>by omega).kept hsB fun b hb hbw=>HKB.o.block b hbw fun(e:b=xr)=>by omega).kept hsC fun b hb hbw=>HKC.o.block b hbw fun(e:b=xr)=>by omega).kept hsD fun b hb hbw=>YQ.block b hbw fun(e:b=xr)=>by omega));clear HC hrD hRD YQ YK HKB HKC HRH9 Je;have hcn:¬c=58:=by omega
 have hc1:58≤c:=by omega
 have hc3:(58:Int)≤(c:Int):=by omega
 have FJ:acd (Calls Tryz.prog 95 #[.slice (some ⟨b0,o0,none⟩) 58 c] wD fun e u'=>e= .returned (.int .u32 cr)∧wD=u'):=ab9 (by
  have h9:=(gN.o.below (OY.o.trans (tN.o.mono OY.o.size)) ace).take 58;rw[show min N 58=58 by omega,←aaO,HB2_.o,abp hml]at h9;rw[ZN.o];exact vV _ 58 c H wD h9 (by omega))
 go_wp2_with fail;refine FJ.o.mono ?_;rintro e _ ⟨rfl,rfl⟩;obtain⟨p0,p1,p2⟩:=HP.o wD tN.o;obtain⟨q0,q1,q2,q3,q4⟩:=iF (x:=⟨x.gen,x.seq,x.dx,x.head,[]⟩) (sn:=0) (sc:=0) (sa:=none) HX.o;go_wp2_with fail;refine(HPR.o a8 c8 none 0 0 wD).mono ?_;rintro e wE ⟨rfl,hbE⟩;have Vx:=ab9 hbE;clear p0 p1 p2 q0 q1 q2 q3 q4 FJ;obtain⟨p0,p1,p2⟩:=HP.o wE (tN.o.trans (hbE.mono tN.o.size));clear hbE;go_wp2_with fail;refine(Un.o wE).mono ?_;rintro e wF ⟨rfl,Lc⟩;have Da:=ab9 (Vx.o.trans (Lc.mono Vx.o.size));clear Lc p0 p1 p2;have ewr:=EWR.o;obtain⟨M,hM⟩:∃M,M=94+sn:=⟨_,rfl⟩;have es:IntKind.i64.wrap (sn:Int)=(sn:Int):=by rw[aah _ (by omega)]
 have e1:IntKind.i64.wrap (94+(sn:Int))=(M:Int):=by rw[aah _ (by omega)];omega
 have k1:(0:Int)≤(M:Int):=by omega
 have k2:(M:Int)≤(N:Int):=by omega
 have k3:M≤N:=by omega
 have HM:=ab9 hM;obtain⟨za,hza⟩:∃za,(if c=M then some (⟨b0,o0,none⟩:Addr)else some ⟨b0,o0+M,none⟩)=za:=⟨_,rfl⟩;have HZA:acd (ah (fun b=>b<w.heap.size) wF za (N-M) ((List.replicate (N-M) (0:UInt8)).map bv)):=by
  show ah _ _ _ _ _;rw[←hza];by_cases h9:c=M
  ·rw[if_pos h9,show N-M=0 by omega];exact ah.zero _ _ _ rfl rfl
  ·rw[if_neg h9];have h8:=((gN.o.below (OY.o.trans ((tN.o.trans (Da.o.mono tN.o.size)).mono OY.o.size)) ace).drop M);have h7:B.drop M=List.replicate (N-M) 0:=by
    rw[HB2_.o,hM,←HZ_.o];have e9:H++(bA (cr/65536) 2++(bA (cr%65536) 2++(kg x.state++(x.state++Z))))=(H++bA (cr/65536) 2++bA (cr%65536) 2++kg x.state++x.state)++Z:=by simp only[List.append_assoc]
    rw[e9,aa6 (by simp[ay,dY,hml,←Fg.o];omega)]
   rw[←aaR,h7]at h8;exact h8
 clear hM;go_wp2_with fail;refine(Bo za (N-M) (c-M) wF HZA.o (by omega) (by omega)).mono ?_;rintro e wG ⟨rfl,hbG⟩;have Xo:=ab9 (Da.o.trans (hbG.mono Da.o.size));have HRG:=ab9 (zR.o.grow Xo.o);have HXG:=ab9 ((Xo.o.block _ (by omega)).trans HX.o);clear hbG hza ewr e1 k1 k2 k3;have HC:acd (Calls Tryz.prog 149 #[ptr xr,.int .i64 (sn:Int)] wG (vG w2 wG xr x.state Z)):=vH HRG.o sn Ut.o Fg.o (by have:=Fg.o;omega);go_wp2_with fail;refine HC.o.mono ?_;rintro e wH ⟨aH,cH,rfl,hcH,hrH,hRH,hkH⟩;rw[←Fg.o]at hrH hcH⊢;have wS:=Xo.o.size;have HXH:acd (wH.heap[w8.heap.size]? =some (.cells #[.int .u64 x.gen,.int .u64 x.seq,.int .i64 x.dx,.slice a8 32 c8,.slice none 0 0] 91 (0,0))):=ab9 ((hkH.block _ (by omega) (fun(e:_=xr)=>by omega)).trans HXG.o);have HROWH:=ab9 hrH;have HKH:=ab9 hkH;have hsH:=hkH.size;have HBH:=ab9 hRH.below;have q4:wH.cell? ⟨w8.heap.size,4,none⟩=some (.slice none 0 0):=by simp[World.cell?,HXH.o]
 have f4:wH.frozen? ⟨w8.heap.size,4,none⟩=false:=by simp[World.frozen?,HXH.o]
 clear HC hrH hRH hkH;go_wp2_with fail;obtain⟨wI,hwI⟩:∃wI,wI=wH.setCell ⟨w8.heap.size,4,none⟩ (.slice aH sn cH):=⟨_,rfl⟩;have hkI:Keeps (fun b=>b=w8.heap.size) wH wI:=by rw[hwI];exact Keeps.kX wH ⟨w8.heap.size,4,none⟩ _
 have hXI:wI.heap[w8.heap.size]? =some (.cells (n_ x a8 c8 aH sn cH) 91 (0,0)):=by
  rw[hwI,aK HXH.o];rfl
 have hsI:wI.heap.size=wH.heap.size:=by rw[hwI,size_set]
 rw[←hwI];clear hwI q4 f4;have HROWI:acd (ah (fun b=>wG.heap.size≤b∧b<wH.heap.size) wI aH sn (x.state.map bv)):=ab9 (HROWH.o.kept hkI.size fun b hb hbw=>hkI.block b hbw fun(e:b=_)=>by omega);have HRHI:acd (ah (fun b=>w7.heap.size≤b∧b<w8.heap.size) wI a8 32 (x.head.map bv)):=ab9 (((HRH.o.below Xo.o ace).kept hsH fun b hb hbw=>HKH.o.block b hbw fun(e:b=_)=>by omega).kept hkI.size fun b hb hbw=>hkI.block b hbw fun(e:b=_)=>by omega);have HRDI:acd (ah (fun b=>wC.heap.size≤b∧b<wD.heap.size) wI aD 32 ((kg x.state).map bv)):=ab9 (((HROWD.o.below Xo.o ace).kept hsH fun b hb hbw=>HKH.o.block b hbw fun(e:b=_)=>by omega).kept hkI.size fun b hb hbw=>hkI.block b hbw fun(e:b=_)=>by omega);have HRESI:acd (wI.heap[w.heap.size+1]? =some (.cells #[.int .u64 0,.int .u64 0,.int .i64 0,.slice none 0 0,.slice none 0 0] 91 (0,0))):=ab9 ((hkI.block _ (by omega) (fun(e:_=_)=>by omega)).trans ((HBH.o.block _ hz2).trans qG.o));have HBI:acd (Below w2.heap.size w2 wI):=ab9 (HBH.o.trans (hkI.bQ (by have:=HBH.o.size;omega) fun y hy (e:y=_)=>by omega));have HXI:=ab9 hXI;have HSS:=ab9 (zM aH sn cH x.state wI HROWI.o (by omega) hcH.1);clear hkI hXI;refine HSS.o.mono ?_;rintro e wJ ⟨aJ,nJ,cJ,rfl,hcJ,hrJ,hbJ⟩;obtain rfl:nJ=32:=by have:=hrJ.length;rw[List.length_map,dY]at this;exact this.symm
 have HRJ:=ab9 hrJ;have ZW:=ab9 hbJ;clear hrJ hbJ HSS;go_wp2_with fail;refine(qh _ _ _ _ _ _ (kg x.state) _ HRJ.o (HRDI.o.below ZW.o ace)).mono ?_;rintro e _ ⟨rfl,rfl⟩;obtain⟨q0,q1,q2,q3,q4⟩:=iF ((ZW.o.block _ (by omega)).trans HXI.o);have HRESJ:=ab9 ((ZW.o.block _ (by omega)).trans HRESI.o);go_wp2_with (refine au (by rfl) 91 _ _ (by rfl) (w.heap.size+1) (n_ x a8 c8 aH sn cH) (by rfl) (by rfl) _ HRESJ.o yx rfl (by simp[n_,Value.oneCell']) ?_;intro wL hsL;have HSL:=ab9 hsL;clear hsL q0 q1 q2 q3 q4);refine ret_mk rfl rfl rfl rfl HSL.o.1 rfl ?_;have hk:=HSL.o.2.1;have hz:=hk.size;have hsJ:=ZW.o.size;have Xp:=Fg.o;have hmv:∀{a:Option Addr} {n:Nat} {vs:List Value},ah (fun b=>w.heap.size+1<b∧b<wI.heap.size) wI a n vs→ah (fun b=>w.heap.size≤b∧b<wL.heap.size) wL a n vs:=fun hr=>((hr.below ZW.o ace).kept hk.size fun b hb hbw=>hk.block b hbw (by omega)).mono fun b hb=>⟨by omega,by omega⟩;have hbw:=OY.o;refine⟨a8,c8,aH,cH,by rw[←Xp];rfl,hmv (HRHI.o.mono fun b hb=>⟨by omega,by omega⟩),hc8.1,?_,by rw[←Xp];exact hcH.1,HSL.o.below (hbw.trans ((HBI.o.trans (ZW.o.mono HBI.o.size)).mono hbw.size)) (by omega)⟩;rw[←Xp];exact hmv (HROWI.o.mono fun b hb=>⟨by omega,by omega⟩)
def bE(n k:Nat):Nat:=1+k*(n/4)
theorem Dk{n:Nat}{x:wT}(h:Bu n x)(h0:64≤n)(hroom:(x.state.length:Int)≤gu n):(xJ n x).length=n/4*128:=by
 have h1:gu n=((n/4*128:Nat):Int)-94:=by unfold gu;omega
 rw[h1]at hroom;simp[xJ,JG h,ay,dY,h1];omega
section
variable{W w:World}{o:Mark}{i n d:Nat}
theorem Iq{S S':Nat→Prop}{b:List UInt8}{cl:Prop}{c:Int}(hD:dP o i w d n b cl c)(hM:Marks W o w)(hi:i≠0)(hc:c≤10000000000)(x:wT)(h:Bu n x)(hroom:(x.state.length:Int)≤gu n)(ha:Option Addr)(hc':Nat)(sa:Option Addr)(sn sc:Nat)(hh:ah S w ha 32 (x.head.map bv))(hs:ah S' w sa sn (x.state.map bv))(hsc:sn≤sc):
  Calls Tryz.prog 35 #[ptr d,.agg (aW n),.agg (n_ x ha hc' sa sn sc)] w (jH o i w d n (splice b (bE n (x.gen%2).toNat*128) (xJ n x)) False (c+((n/4:Nat):Int)) (.int .i64 0)):=by
 have hl:=hD.len;have g1:=h.gen;obtain⟨w2,hw2⟩:∃w2,w2=(w.alloc (.cells (aW n) 57)).alloc (.cells (n_ x ha hc' sa sn sc) 91):=⟨_,rfl⟩;obtain⟨hs2,hb2,hp2⟩:=jE _ _ _ _ hw2;have hm2:w2.heap[w.heap.size+1]? =some (.cells (n_ x ha hc' sa sn sc) 91 (0,0)):=by
  have h9:=(MapKept.heap_alloc (w.alloc (.cells (aW n) 57)) (.cells (n_ x ha hc' sa sn sc) 91)).1;rw[Pd]at h9;rw[hw2];exact h9
 have HP:=ab9 (fun(u:World) (hb:Below w2.heap.size w2 u)=>eB (n:=n) ((hb.block w.heap.size (by omega)).trans hp2));have HK:=ab9 (fun(u:World) (hb:Below w2.heap.size w2 u)=>iF ((hb.block (w.heap.size+1) (by omega)).trans hm2));have Gn:=ab9 (Xl n hl.2.1 hl.2.2 x h hroom ha hc' sa sn sc w2 (hh.below hb2 ace) (hs.below hb2 ace) hsc);obtain⟨k,hk⟩:∃k,k=(x.gen%2).toNat:=⟨_,rfl⟩;have hk2:k=0∨k=1:=by omega
 have ek:x.gen%2=(k:Int):=by omega
 have Wi:acd (∀u,Calls Tryz.prog 99 #[.agg (aW n),.int .i64 (k:Int)] u fun e u'=>e= .returned (.tuple #[.int .i64 ((bE n k:Nat):Int),.int .i64 0])∧Below u.heap.size u u'):=ab9 fun u=>by
  have h9:=zI n hl.2.1 hl.2.2 k (by omega) u
  rwa [show 1+(k:Int)*((n:Int)/4)=((bE n k:Nat):Int)by unfold bE;rcases hk2 with rfl|rfl<;>omega]at h9
 obtain⟨first,hfi⟩:∃first,first=bE n k:=⟨_,rfl⟩
 have hfit:first+n/4≤n:=by rw[hfi];unfold bE;rcases hk2 with rfl|rfl<;>omega
 have hbl:=Dk h hl.2.1 hroom;rw[←hk,←hfi];rw[←hfi]at Wi;have ewk:IntKind.i64.wrap (k:Int)=(k:Int):=by rw[aah _ (by omega)]
 have HD:=ab9 hD;have HM:=ab9 hM;have HW2:=ab9 hw2;have HB2:=ab9 hb2;have HS2:=ab9 hs2;have HL:=ab9 hl;unfold aW at Gn Wi HW2⊢;unfold n_ at Gn HW2⊢;clear hD hM h hh hs hw2 hb2 hp2 hm2 hs2 hk hfi hl hroom;go_enter Tryz.func35,Tryz.ntmps35;obtain⟨p0,p1,p2⟩:=HP.o w2 acf;obtain⟨m0,m1,m2,m3,m4⟩:=HK.o w2 acf;go_wp2_with fail;rw[←HW2.o];refine Gn.o.mono ?_;rintro e w3 ⟨a3,n3,c3,rfl,hc3,hr3,hb3⟩;obtain rfl:n3=n/4*128:=by have:=hr3.length;rw[List.length_map,hbl]at this;exact this.symm
 have HR3:=ab9 hr3;have HB3:=ab9 hb3;clear hr3 hb3 Gn p0 p1 p2 m0 m1 m2 m3 m4;obtain⟨p0,p1,p2⟩:=HP.o w3 HB3.o;obtain⟨m0,m1,m2,m3,m4⟩:=HK.o w3 HB3.o;go_wp2_with fail;refine(Wi.o w3).mono ?_;rintro e w4 ⟨rfl,hb4⟩;have hs3:=HB3.o.size;have hsw:=HB2.o.size;have dh:=ab9 ((HB2.o.trans (HB3.o.mono hsw)).trans (hb4.mono (by omega)));have HR4:acd (ah (fun y=>o y≠i) w4 a3 (n/4*128) ((xJ n x).map bv)):=ab9 ((HR3.o.below hb4 ace).mono fun y hy e=>by
  have h9:=(HM.o.new y (by rw[e];exact hi)).2;have h8:w2.heap.size≤y:=hy.1;omega)
 have HLY:=ab9 (E5 (HD.o.grow dh.o) (HM.o.grow dh.o) hi (by omega) first (n/4) (by have:=HL.o;omega) hfit a3 c3 (xJ n x) hbl HR4.o hc3);clear hb4 p0 p1 p2 m0 m1 m2 m3 m4;go_wp2_with fail;refine HLY.o.mono ?_;rintro e w5 ⟨rfl,o5,hs5,hD5⟩;have jV:=ab9 (Step.behind HM.o dh.o hs5);have HD5:=ab9 hD5;clear hs5 hD5;go_wp2_with fail;go_ret;exact⟨rfl,o5,jV.o,HD5.o⟩
end
structure M4 where
 wr:Bool
 id:Int
 b:List UInt8
structure dN where
 t:aI
 s:rH
 now:Int
 fds:Nat→Option M4
def og:dN:=⟨yT,Hq,0,fun _=>none⟩
def Bv(o:Mark)(w:World)(v:Value):Option M4→Prop
 |none=>v= .pointer none
 |some f=>∃q a c,v=ptr q∧o q=0∧q<w.heap.size∧w.heap[q]? =some (.cells #[.bool f.wr,.int .i64 f.id,.slice a f.b.length c] 201 (0,0))∧f.b.length≤c∧ah (Free o w) w a f.b.length (f.b.map bv)
def Dl(t s:Nat)(now:Int)(v:Nat→Value):Array Value:= #[ptr t,ptr s,.int .u64 now,v 0,v 1,v 2,v 3,v 4,v 5,v 6,v 7]
structure bT(o:Mark)(i j k:Nat)(w:World)(p:Nat)(M:dN):Prop where
 at_:∃t s v,w.heap[p]? =some (.cells (Dl t s M.now v) 104 (0,0))∧jR o i w s M.s∧eX o j w t M.t∧∀n,n<8→Bv o w (v n) (M.fds n)
 own:o p=k
 low:p<w.heap.size
theorem Bv.step{o o':Mark}{I:Nat→Prop}{w w':World}{v:Value}{f:Option M4}(h:Bv o w v f)(hi:¬I 0)(hs:Step o I w o' w'):Bv o' w' v f:=by
 cases f with
 |none=>exact h
 |some f=>
  obtain⟨q,a,c,h1,h2,h3,h4,h5,h6⟩:=h;exact⟨q,a,c,h1,(hs.old q h3).trans h2,Nat.lt_of_lt_of_le h3 hs.keep.size,(hs.block h3 (by rw[h2];exact hi)).trans h4,h5,h6.free hi hs⟩
theorem Bv.grow{o:Mark}{w w':World}{v:Value}{f:Option M4}(h:Bv o w v f)(hb:Below w.heap.size w w'):Bv o w' v f:=by
 cases f with
 |none=>exact h
 |some f=>
  obtain⟨q,a,c,h1,h2,h3,h4,h5,h6⟩:=h;exact⟨q,a,c,h1,h2,Nat.lt_of_lt_of_le h3 hb.size,(hb.block q h3).trans h4,h5,h6.move hb.size fun b hb' hbw=>⟨⟨hb'.1,Nat.lt_of_lt_of_le hb'.2 hb.size⟩,hb.block b hbw⟩⟩
theorem bT.step{o o':Mark}{I:Nat→Prop}{i j k:Nat}{w w':World}{p:Nat}{M:dN}(h:bT o i j k w p M)(h0:¬I 0)(hi:¬I i)(hj:¬I j)(hk:¬I k)(hs:Step o I w o' w'):bT o' i j k w' p M:=by
 obtain⟨t,s,v,h1,h2,h3,h4⟩:=h.at_;exact⟨⟨t,s,v,(hs.block h.low (by rw[h.own];exact hk)).trans h1,h2.step h0 hi hs,h3.step h0 hj hs,fun n hn=>(h4 n hn).step h0 hs⟩,(hs.old p h.low).trans h.own,Nat.lt_of_lt_of_le h.low hs.keep.size⟩
theorem bT.grow{W:World}{o:Mark}{i j k:Nat}{w w':World}{p:Nat}{M:dN}(h:bT o i j k w p M)(hM:Marks W o w)(hb:Below w.heap.size w w'):bT o i j k w' p M:=
 h.step (I:=fun _=>False) (fun e=>e) (fun e=>e) (fun e=>e) (fun e=>e) (Step.grow hM hb)
theorem iG{w:World}{p t s:Nat}{now:Int}{v:Nat→Value}(h:w.heap[p]? =some (.cells (Dl t s now v) 104 (0,0))):w.cell? ⟨p,0,none⟩=some (ptr t)∧w.cell? ⟨p,1,none⟩=some (ptr s)∧w.cell? ⟨p,2,none⟩=some (.int .u64 now)∧(∀n,n<8→w.cell? ⟨p,3+n,none⟩=some (v n))∧∀j,w.frozen? ⟨p,j,none⟩=false:=by
 refine⟨?_,?_,?_,fun n hn=> ?_,fun j=> ?_⟩
 ·simp[World.cell?,h,Dl]
 ·simp[World.cell?,h,Dl]
 ·simp[World.cell?,h,Dl]
 ·rcases (show n=0∨n=1∨n=2∨n=3∨n=4∨n=5∨n=6∨n=7 by omega)with rfl|rfl|rfl|rfl|rfl|rfl|rfl|rfl<;>simp[World.cell?,h,Dl]
 ·simp[World.frozen?,h]
theorem st_put(t s:Nat)(now:Int)(v:Nat→Value)(n:Nat)(hn:n<8)(x:Value):(Dl t s now v).setIfInBounds (3+n) x=Dl t s now (fun m=>if m=n then x else v m):=by
 rcases (show n=0∨n=1∨n=2∨n=3∨n=4∨n=5∨n=6∨n=7 by omega)with rfl|rfl|rfl|rfl|rfl|rfl|rfl|rfl<;>rfl
theorem st_now(t s:Nat)(now u:Int)(v:Nat→Value):(Dl t s now v).setIfInBounds 2 (.int .u64 u)=Dl t s u v:=rfl
def iZ(M:dN)(n:Int)(wr:Bool):Option M4:=if 0≤n∧n<8 then(match M.fds n.toNat with|some f=>if f.wr=wr then some f else none|none=>none)else none
def Q6(M:dN)(v:Int):Prop:=(v= -1∧∀n,n<8→M.fds n≠none)∨∃n:Nat,n<8∧v=n∧M.fds n=none∧∀m,m<n→M.fds m≠none
def Q7(z:Int):Value:= .agg #[.int .i64 z,.int .i64 0,.slice none 0 0,.slice none 0 0,.int .i64 0,.int .i64 0,.int .i64 0,.int .i64 0,.int .u64 0,.bool false]
theorem rE(z:Int)(w:World):Calls Tryz.prog 47 #[.int .i64 z] w fun e w'=>e= .returned (Q7 z)∧Below w.heap.size w w':=by
 go_enter Tryz.func47,Tryz.ntmps47;go_wp2;refine aap (v:=Q7 z) (by simp[results,Tryz.results47,Q7,go_sem]) rfl ⟨rfl,wall w _⟩
section
variable{W w:World}{o:Mark}{i j k p:Nat}{M:dN}
def Xq(o:Mark)(w:World)(M:dN)(n:Int)(b:Bool)(e:Ending):Prop:=
 (iZ M n b=none∧e= .returned (.tuple #[.pointer none,.bool false]))∨∃f v,iZ M n b=some f∧e= .returned (.tuple #[v,.bool true])∧Bv o w v (some f)
theorem now_any(h:bT o i j k w p M):Calls Tryz.prog 15 #[ptr p] w fun e w'=>e= .returned (.int .u64 M.now)∧Below w.heap.size w w':=by
 obtain⟨t,s,v,h1,h2,h3,h4⟩:=h.at_;obtain⟨c0,c1,c2,c3,c4⟩:=iG h1;clear h h1 h2 h3 h4;go_enter Tryz.func15,Tryz.ntmps15;go_wp2;go_ret;exact⟨rfl,Below.refl _ _⟩
theorem JI(h:bT o i j k w p M)(n:Int)(b:Bool):Calls Tryz.prog 45 #[ptr p,.int .i64 n,.bool b] w fun e w'=>w'=w∧Xq o w M n b e:=by
 obtain⟨t,s,v,h1,h2,h3,h4⟩:=h.at_;obtain⟨c0,c1,c2,c3,c4⟩:=iG h1;have H4:=ab9 h4;have C3:=ab9 c3;clear h h1 h2 h3 h4 c3 c4;by_cases hn0:n<0
 ·have hg:acd (iZ M n b=none):=by have:iZ M n b=none:=by unfold iZ;rw[if_neg (by omega)]
                                  exact ab9 this
  have hd:decide (n<0)=true:=by simpa using hn0
  go_enter abU,abL;go_wp2_with fail
  go_ret2
  exact⟨rfl,.inl ⟨hg.o,rfl⟩⟩
 ·by_cases vY:8≤n
  ·have hg:acd (iZ M n b=none):=by have:iZ M n b=none:=by unfold iZ;rw[if_neg (by omega)]
                                   exact ab9 this
   have hd:decide (n<0)=false:=by simpa using hn0
   have hd2:decide (8≤n)=true:=by simpa using vY
   go_enter abU,abL;go_wp2_with fail
   go_ret2
   exact⟨rfl,.inl ⟨hg.o,rfl⟩⟩
  ·obtain⟨m,rfl⟩:∃m:Nat,n=m:=⟨n.toNat,by omega⟩;have hm:m<8:=by omega
   have hcm:=C3.o m hm;have hf:=H4.o m hm;have hg:iZ M m b=match M.fds m with|some f=>if f.wr=b then some f else none|none=>none:=by
    unfold iZ;rw[if_pos (by omega)];rfl
   have hd:decide ((m:Int)<0)=false:=by simp
   have hd2:decide (8≤(m:Int))=false:=by simp;omega
   have i0:(0:Int)≤m:=by omega
   have i1:(m:Int)<8:=by omega
   cases uj:M.fds m with
   |none=>
    rw[uj]at hf hg;have hv:v m= .pointer none:=hf;rw[hv]at hcm;have HG:=ab9 hg;clear hf hg uj hv;go_enter abU,abL;go_wp2_with fail
    go_ret2
    exact⟨rfl,.inl ⟨HG.o,rfl⟩⟩
   |some f=>
    rw[uj]at hf hg;have HF:=ab9 hf;obtain⟨q,a,c,hv,hq0,hq1,hq2,_,_⟩:=hf;rw[hv]at hcm HF;have q0:w.cell? ⟨q,0,none⟩=some (.bool f.wr):=by simp[World.cell?,hq2]
    obtain⟨fw,fi,fb⟩:=f;have HG:=ab9 hg;clear hg uj hv hq2;cases fw with
    |false=>
     cases b with
     |false=>
      go_enter abU,abL;go_wp2_with fail
      go_ret2
      exact⟨rfl,.inr ⟨⟨false,fi,fb⟩,_,HG.o.trans (if_pos trivial),rfl,HF.o⟩⟩
     |true=>
      go_enter abU,abL;go_wp2_with fail
      go_ret2
      exact⟨rfl,.inl ⟨HG.o.trans (if_neg (by simp)),rfl⟩⟩
    |true=>
     cases b with
     |false=>
      go_enter abU,abL;go_wp2_with fail
      go_ret2
      exact⟨rfl,.inl ⟨HG.o.trans (if_neg (by simp)),rfl⟩⟩
     |true=>
      go_enter abU,abL;go_wp2_with fail
      go_ret2
      exact⟨rfl,.inr ⟨⟨true,fi,fb⟩,_,HG.o.trans (if_pos trivial),rfl,HF.o⟩⟩
end
theorem Tx(x0 x1 x2 x3 x4 x5 x6 x7:Value)(w:World):(Instr.index 102 (.agg #[x0,x1,x2,x3,x4,x5,x6,x7]) (.int .i64 0)).run Tryz.prog w= .ok x0 w:=by
 kernel_rfl
theorem Tz(x0 x1 x2 x3 x4 x5 x6 x7:Value)(w:World):(Instr.index 102 (.agg #[x0,x1,x2,x3,x4,x5,x6,x7]) (.int .i64 1)).run Tryz.prog w= .ok x1 w:=by
 kernel_rfl
theorem TA(x0 x1 x2 x3 x4 x5 x6 x7:Value)(w:World):(Instr.index 102 (.agg #[x0,x1,x2,x3,x4,x5,x6,x7]) (.int .i64 2)).run Tryz.prog w= .ok x2 w:=by
 kernel_rfl
theorem TB(x0 x1 x2 x3 x4 x5 x6 x7:Value)(w:World):(Instr.index 102 (.agg #[x0,x1,x2,x3,x4,x5,x6,x7]) (.int .i64 3)).run Tryz.prog w= .ok x3 w:=by
 kernel_rfl
theorem TD(x0 x1 x2 x3 x4 x5 x6 x7:Value)(w:World):(Instr.index 102 (.agg #[x0,x1,x2,x3,x4,x5,x6,x7]) (.int .i64 4)).run Tryz.prog w= .ok x4 w:=by
 kernel_rfl
theorem TF(x0 x1 x2 x3 x4 x5 x6 x7:Value)(w:World):(Instr.index 102 (.agg #[x0,x1,x2,x3,x4,x5,x6,x7]) (.int .i64 5)).run Tryz.prog w= .ok x5 w:=by
 kernel_rfl
theorem TG(x0 x1 x2 x3 x4 x5 x6 x7:Value)(w:World):(Instr.index 102 (.agg #[x0,x1,x2,x3,x4,x5,x6,x7]) (.int .i64 6)).run Tryz.prog w= .ok x6 w:=by
 kernel_rfl
theorem TH(x0 x1 x2 x3 x4 x5 x6 x7:Value)(w:World):(Instr.index 102 (.agg #[x0,x1,x2,x3,x4,x5,x6,x7]) (.int .i64 7)).run Tryz.prog w= .ok x7 w:=by
 kernel_rfl
theorem L9(v:Nat→Value)(n:Nat)(hn:n<8)(w:World):(Instr.index 102 (.agg #[v 0,v 1,v 2,v 3,v 4,v 5,v 6,v 7]) (.int .i64 n)).run Tryz.prog w= .ok (v n) w:=by
 match n,hn with
 |0,_=>exact Tx _ _ _ _ _ _ _ _ w
 |1,_=>exact Tz _ _ _ _ _ _ _ _ w
 |2,_=>exact TA _ _ _ _ _ _ _ _ w
 |3,_=>exact TB _ _ _ _ _ _ _ _ w
 |4,_=>exact TD _ _ _ _ _ _ _ _ w
 |5,_=>exact TF _ _ _ _ _ _ _ _ w
 |6,_=>exact TG _ _ _ _ _ _ _ _ w
 |7,_=>exact TH _ _ _ _ _ _ _ _ w
section
variable{W w:World}{o:Mark}{i j k p:Nat}{M:dN}
theorem Xr(h:bT o i j k w p M):Calls Tryz.prog 115 #[ptr p] w fun e w'=>∃n,e= .returned (.int .i64 n)∧Q6 M n∧w'=w:=by
 obtain⟨t,s,v,h1,h2,h3,h4⟩:=h.at_;obtain⟨c0,c1,c2,c3,c4⟩:=iG h1;have e3:=c3 0 (by omega);have e4:=c3 1 (by omega);have e5:=c3 2 (by omega);have e6:=c3 3 (by omega);have e7:=c3 4 (by omega);have e8:=c3 5 (by omega);have e9:=c3 6 (by omega);have e10:=c3 7 (by omega);have H4:=ab9 h4;clear h h1 h2 h3 h4 c3 c4;go_enter Tryz.func115,Tryz.ntmps115;go_wp2_with fail
 go_loopw [9] (fun iv wr=>∃n:Nat,n≤8∧iv= .int .i64 n∧(∀m,m<n→M.fds m≠none)∧wr=w) (fun iv _=>8-(intOf iv).toNat)
 case atStart=>exact⟨0,by omega,rfl,fun m hm=>by omega,rfl⟩
 case round=>
  obtain⟨n,hn,rfl,hno,rfl⟩:=hrel;have Uu:=ab9 hno;clear hno;by_cases vY:n<8
  ·have hd:decide ((n:Int)<8)=true:=by simp;omega
   have hix:=L9 v n vY wr;have hf:=H4.o n vY;have i0:(0:Int)≤n:=by omega
   cases uj:M.fds n with
   |none=>
    rw[uj]at hf;have hv:v n= .pointer none:=hf;rw[hv]at hix;have U1:=ab9 uj;clear hf hv uj;go_wp2_with fail;go_ret;exact⟨n,rfl,.inr ⟨n,vY,rfl,U1.o,Uu.o⟩,rfl⟩
   |some f=>
    rw[uj]at hf;obtain⟨q,fa,fc,hv,_⟩:=hf;rw[hv]at hix;have U1:=ab9 uj;clear hv uj;go_wp2_with fail;go_roundw
    case rel=>
     refine⟨n+1,by omega,by go_num,fun m hm=> ?_,trivial⟩;by_cases hmn:m=n
     ·rw[hmn,U1.o];simp
     ·exact Uu.o m (by omega)
    case measure=>simp[intOf];omega
  ·obtain rfl:n=8:=by omega
   go_wp2_with fail;go_ret;exact⟨-1,rfl,.inl ⟨rfl,Uu.o⟩,rfl⟩
end
def Ir(S:rH)(id:Int):Option lU:=S.l.find? fun x=>decide (x.id=id)
theorem EB.none_{S:rH}{id:Int}(h:∀x∈S.l,x.id≠id):Ir S id=none:=by
 unfold Ir;rw[abm];intro x hx;simpa using h x hx
theorem EB.some_:∀{l:List lU} {id:Int} {k:Nat} {x:lU},l[k]? =some x→x.id=id→(∀x'∈l.take k,x'.id≠id)→l.find? (fun x=>decide (x.id=id))=some x
 |[],_,k,x,h,_,_=>by simp at h
 |y::r,id,0,x,h,h1,_=>by
  have e:y=x:=by simpa using h
  subst e;simp[h1]
 |y::r,id,k+1,x,h,h1,h2=>by
  have hy:y.id≠id:=h2 y (by simp);rw[List.find?_cons_of_neg (by simpa using hy)];exact EB.some_ (k:=k) (by simpa using h) h1 fun x' hx'=>h2 x' (by simp[hx'])
def GetRet(o:Mark)(w:World)(S:rH)(id:Int)(e:Ending)(w':World):Prop:=
 Below w.heap.size w w'∧((Ir S id=none∧e= .returned (.tuple #[.pointer none,.bool false]))∨∃x q,Ir S id=some x∧e= .returned (.tuple #[ptr q,.bool true])∧eX o 0 w' q x.t∧fu x.t)
section
variable{W w:World}{o:Mark}{i s:Nat}{S:rH}
theorem get_any(hS:jR o i w s S)(hM:Marks W o w)(I_:S.l.length≤1000)(id:Int):Calls Tryz.prog 189 #[ptr s,.int .i64 id] w (GetRet o w S id):=by
 have HM:=ab9 hM;obtain⟨v,la,lc,vals,h1,h2,h3,h4,h5,h6,h7,h8⟩:=hS.at_;obtain⟨a,c,rfl,hcap⟩:=bG h4;obtain⟨-,-,hrow⟩:=ah.mF h4 (by unfold maxLen;omega);have HF:=ab9 (Ww hS id I_);have HH:=ab9 h1;have HON:=ab9 h6;have gN:=ab9 hrow;obtain⟨n,hn⟩:∃n,n=S.l.length:=⟨_,rfl⟩;have HN:=ab9 hn;rw[←hn]at hcap I_;clear hS hM h1 h2 h4 h5 h6 h7 h8 hrow hn;go_enter Tryz.func189,Tryz.ntmps189;go_wp2_with fail;refine HF.o.mono ?_;rintro e w1 ⟨v,rfl,hf,hb1⟩;have HB1:=ab9 hb1;clear hb1;rcases hf with⟨rfl,hno⟩|⟨k,x,rfl,hx,hid,hno⟩
 ·have Uu:=ab9 hno;clear hno;go_wp2_with fail
  go_ret2
  exact⟨HB1.o,.inl ⟨EB.none_ Uu.o,rfl⟩⟩
 ·have hkn:k<n:=by rw[HN.o];exact(aaj.1 hx).1
  have HRW:=gN.o;rw[←HN.o]at HRW;obtain⟨g,off,rfl,hgw,_,hcell⟩:=HRW.at_ (by omega);obtain⟨ha,hcp,q,e0,e1,e2,e3,e4,e5,e6⟩:=HON.o.at_ hx;have d2:w1.cell? ⟨g,off+k*3+2,none⟩=some (ptr q):=(HB1.o.cell (p:=⟨g,off+k*3+2,none⟩) hgw.2).trans ((hcell (k*3+2) (by omega)).trans e2);have hbS:=HB1.o.block s h3;have c0:w1.cell? ⟨s,0,none⟩=some (.slice (some ⟨g,off,none⟩) n c):=by
   have:=hbS.trans HH.o;rw[HN.o];simp[World.cell?,this]
  have kr:=ab9 (HM.o.step (I:=fun _=>False) (fun e=>e) (Step.grow HM.o HB1.o));have KM:=ab9 (Wu (e5.grow HB1.o) kr.o e6);have HFX:=ab9 (EB.some_ hx hid hno);have HE6:=ab9 e6;have hneg:¬((k:Int)<0):=by omega
  have i0:(0:Int)≤k:=by omega
  have i1:(k:Int)<n:=by omega
  clear hx hid hno hcell e0 e1 e2 e3 e4 e5 e6 HRW hbS;go_wp2_with fail;refine KM.o.mono ?_;rintro e w2 ⟨q2,rfl,BM,hb2⟩;have HT2:=ab9 BM;have HB2:=ab9 (HB1.o.trans (hb2.mono HB1.o.size));clear BM hb2;go_wp2_with fail
  go_ret2
  exact⟨HB2.o,.inr ⟨x,q2,HFX.o,rfl,HT2.o,HE6.o⟩⟩
end
structure lN where
 kind:Int
 path:List UInt8
 gy:List UInt8
 fd:Int
 at_:Int
 n:Int
 aT:Int
 snap:Int
 data:List UInt8
def opC(x:lN)(da:Option Addr)(dc:Nat):Array Value:= #[.int .i64 x.kind,.string (strOf x.path),.string (strOf x.gy),.int .i64 x.fd,.int .i64 x.at_,.int .i64 x.n,.int .u64 x.aT,.int .i64 x.snap,.slice da x.data.length dc]
structure wU(x:lN):Prop where
 wk:(Lit.int .i64 x.kind).wf=true
 wf:(Lit.int .i64 x.fd).wf=true
 wa:(Lit.int .i64 x.at_).wf=true
 wn:(Lit.int .i64 x.n).wf=true
 ws:(Lit.int .i64 x.snap).wf=true
 wt:0≤x.aT∧x.aT≤18446744073709551615
 wp:x.path.length<4294967281
 wq:x.gy.length<4294967281
 wd:x.data.length≤1000000000
structure wK where
 er:Int
 n:Int
 data:List UInt8
 names:List Nm
 node:Option (Int×eG)
def iw(z:Int):wK:=⟨z,0,[],[],none⟩
def gZ(r:wK)(da la:Option Addr)(dc lc:Nat):Array Value:= #[.int .i64 r.er,.int .i64 r.n,.slice da r.data.length dc,.slice la r.names.length lc,
 .int .i64 (match r.node with|some q=>q.1|none=>0),.int .i64 (match r.node with|some q=>q.2.kind|none=>0),.int .i64 (match r.node with|some q=>q.2.links|none=>0),.int .i64 (match r.node with|some q=>(q.2.b.length:Int)|none=>0),.int .u64 (match r.node with|some q=>q.2.aT|none=>0),.bool (match r.node with|some q=>q.2.closed|none=>false)]
def oU(o:Mark)(w:World)(v:Value)(r:wK):Prop:=
 ∃da la dc lc,v= .agg (gZ r da la dc lc)∧r.data.length≤dc∧r.names.length≤lc∧ah (Free o w) w da r.data.length (r.data.map bv)∧bH (Free o w) w la r.names.length (r.names.map strOf)
theorem oh(S:Nat→Prop)(w:World):bH S w none 0 []:=⟨ah.nil _ _ _,fun v hv=>by cases hv⟩
theorem oU.no(o:Mark)(w:World)(z:Int):oU o w (Q7 z) (iw z):=
 ⟨none,none,0,0,rfl,Nat.le_refl _,Nat.le_refl _,ah.nil _ _ _,oh _ _⟩
theorem cO(r:wK)(da la:Option Addr)(dc lc:Nat):(gZ r da la dc lc).all (·.oneCell')=true:=by simp[gZ,Value.oneCell']
theorem oU.no_(o:Mark)(w:World)(z:Int):oU o w (.agg (gZ (iw z) none none 0 0)) (iw z):=
 ⟨none,none,0,0,rfl,Nat.le_refl _,Nat.le_refl _,ah.nil _ _ _,oh _ _⟩
theorem bZ:(Tryz.prog.info? 37).map (·.size)=some 10:=by kernel_rfl
theorem eD{fn:Func}{sl:Nat}{Q:Ending→World→Prop}{a:Act}{w:World}{b:Nat}{r:wK}{da la:Option Addr}{dc lc:Nat}(hf:fn.results= #[.cell sl 37])(hs:a.tmps.getD sl undef= .pointer (some ⟨b,0,none⟩))(hd:a.defers=[])(hg:w.heap[b]? =some (.cells (gZ r da la dc lc) 37 (0,0)))(hQ:Q (.returned (.agg (gZ r da la dc lc))) w):
  bodyPost Tryz.prog fn Q .ret a w:=
 aap (v:= .agg (gZ r da la dc lc)) (tH hf hs (aaT w b 37 37 _ (0,0) _ hg Tryz.underlying37 rfl bZ)) hd hQ
def sreadM(M:dN)(x:lN):wK:=match iZ M x.fd false with
 |none=>iw 26
 |some f=>⟨partE x.at_ x.n,(Qj f.b x.at_ x.n).length,Qj f.b x.at_ x.n,[],none⟩
def Fh(o:Mark)(r:wK)(e:Ending)(w':World):Prop:=∃v,e= .returned v∧oU o w' v r
section
variable{W w:World}{o:Mark}{i j k p:Nat}{M:dN}
end
structure Mk(i j k l:Nat):Prop where
 ne:i≠0∧j≠0∧k≠0∧l≠0∧i≠j∧i≠k∧i≠l∧j≠k∧j≠l∧k≠l
theorem mE.step{o:Mark}{l:Nat}{w4 w5:World}{g:Nat}{cs:Array Value}{t:TypeId}{W:World}(hM:Marks W o w4)(hs:mE w4 g cs t w5)(hg:o g=l):Step o (fun m=>m=l) w4 o w5:=by
 obtain⟨_,h2,h3⟩:=hs;refine⟨fun _ _=>rfl,fun b hb hn=>absurd (hM.new b hn).2 (by omega),h2.mono fun x _ (hx:x=g)=>by rw[hx];exact hg⟩
section
variable{W w:World}{o:Mark}{i j k l p:Nat}{M:dN}
theorem bT.tree{o':Mark}{w':World}{t s:Nat}{v:Nat→Value}{T':aI}(hk:Mk i j k l)(h1:w.heap[p]? =some (.cells (Dl t s M.now v) 104 (0,0)))(h2:jR o i w s M.s)(h4:∀n,n<8→Bv o w (v n) (M.fds n))(hown:o p=k)(hlow:p<w.heap.size)(hs:Step o (fun m=>m=j) w o' w')(hT:eX o' j w' t T'):bT o' i j k w' p {M with t:=T'}:=by
 obtain⟨n1,n2,n3,n4,n5,n6,n7,n8,n9,n10⟩:=hk.ne;have h0:¬(fun m=>m=j) 0:=fun e=>n2 e.symm;exact⟨⟨t,s,v,(hs.block hlow (by rw[hown];exact fun e=>n8 e.symm)).trans h1,h2.step h0 n5 hs,hT,fun n hn=>(h4 n hn).step h0 hs⟩,(hs.old p hlow).trans hown,Nat.lt_of_lt_of_le hlow hs.keep.size⟩
def Q8(o:Mark)(i j k l:Nat)(w:World)(p:Nat)(q:wK×dN)(e:Ending)(w':World):Prop:=
 ∃o',Fh o' q.1 e w'∧Step o (fun m=>m=i∨m=j∨m=k∨m=l) w o' w'∧bT o' i j k w' p q.2
def kU(M:dN)(x:lN):wK×dN:=match iZ M x.fd true with
 |none=>(iw 26,M)
 |some f=>if 600<x.data.length then(iw 3,M)else
  (if (dG M.t f.id x.data).1≠0 then iw (dG M.t f.id x.data).1 else⟨0,x.data.length,[],[],none⟩,{M with t:=(dG M.t f.id x.data).2})
theorem OZ{S:Nat→Prop}(hS:bT o i j k w p M)(hM:Marks W o w)(hk:Mk i j k l)(hok:fu M.t)(x:lN)(hx:wU x)(hfi:∀n f,M.fds n=some f→(Lit.int .i64 f.id).wf=true)(da:Option Addr)(dc:Nat)(hda:ah S w da x.data.length (x.data.map bv)):
  Calls Tryz.prog 52 #[ptr p,.agg (opC x da dc)] w (Q8 o i j k l w p (kU M x)):=by
 have HKK:=ab9 hk;have iM:=ab9 hok;have HX:=ab9 hx;have HM:=ab9 hM;have HS:=ab9 hS;have HFI:=ab9 hfi;have uN:=ab9 hda;clear hS hM hk hok hx hfi hda;unfold opC;go_enter Tryz.func52,Tryz.ntmps52;go_wp2_with fail;obtain⟨w2,hw2⟩:∃w2,w2=(w.alloc (.cells (opC x da dc) 40)).alloc (.cells (gZ (iw 0) none none 0 0) 37):=⟨_,rfl⟩;have hb2:Below w.heap.size w w2:=by rw[hw2];exact(wall w _).trans ((wall _ _).mono (by simp))
 have hop:w2.heap[w.heap.size]? =some (.cells (opC x da dc) 40 (0,0)):=by
  rw[hw2];exact((wall _ _).block _ (by simp)).trans (MapKept.heap_alloc w _).1
 have hre:w2.heap[w.heap.size+1]? =some (.cells (gZ (iw 0) none none 0 0) 37 (0,0)):=by
  rw[hw2];have:=(MapKept.heap_alloc (w.alloc (.cells (opC x da dc) 40)) (.cells (gZ (iw 0) none none 0 0) 37)).1;rw[Pd]at this;exact this
 obtain⟨n1,n2,n3,n4,n5,n6,n7,n8,n9,n10⟩:=HKK.o.ne;obtain⟨o1,hs1,hl1,hl2⟩:=dI HM.o l (fun b=>b=w.heap.size+1) (w':=w2) (fun b hb=>by subst hb;exact⟨by omega,(uh.1 hre).1⟩) hb2;have hS1:bT o1 i j k w2 p M:=HS.o.step (fun e=>n4 e.symm) n7 n9 n10 hs1;have hM1:Marks W o1 w2:=HM.o.step (fun e=>n4 e.symm) hs1;have sI:acd (Calls Tryz.prog 45 #[ptr p,.int .i64 x.fd,.bool true] ((w.alloc (.cells (opC x da dc) 40)).alloc (.cells (gZ (iw 0) none none 0 0) 37)) fun e w''=>w''=w2∧Xq o1 w2 M x.fd true e):=by rw[←hw2];exact ab9 (JI hS1 x.fd true)
 unfold opC gZ iw at sI;dsimp only[List.length_nil]at sI;have Fj:=ab9 hop;have rG:=ab9 hre;have HB2:=ab9 hb2;have nH:=ab9 hS1;have kr:=ab9 hM1;have LJ:=ab9 (hl1 _ rfl);have HL0:acd (o1 w.heap.size=0):=ab9 ((hl2 w.heap.size (by omega)).trans (Vh fun h9=>by have:=(HM.o.new _ h9).2;omega));have qH:=ab9 hs1;clear hop hre hb2 hw2 hS1 hM1 hl1 hl2 hs1;refine sI.o.mono ?_;rintro e w3 ⟨rfl,uj⟩;clear sI;have CF:acd (∀(z:wK) (w4 w5:World),Below w3.heap.size w3 w4→mE w4 (w.heap.size+1) (gZ z none none 0 0) 37 w5→z.data=[]→z.names=[]→Q8 o i j k l w p (z,M) (.returned (.agg (gZ z none none 0 0))) w5):=fun z w4 w5 hb hs hz1 hz2=>by
  have qK:=kr.o.step (I:=fun _=>False) (fun e=>e) (Step.grow kr.o hb);have hst:=hs.step qK LJ.o;have uO:=(nH.o.grow kr.o hb).step (fun e=>n4 e.symm) n7 n9 n10 hst;refine⟨o1,⟨_,rfl,none,none,0,0,rfl,by rw[hz1];exact Nat.le_refl _,by rw[hz2];exact Nat.le_refl _,by rw[hz1];exact ah.nil _ _ _,by rw[hz2];exact oh _ _⟩,((qH.o.trans (Step.grow kr.o hb)).trans hst).mono fun m hm=> .inr (.inr (.inr hm)),uO⟩
 rcases uj with⟨hg,rfl⟩|⟨f,fv,hg,rfl,hfv⟩
 ·have hr:kU M x=(iw 26,M):=by unfold kU;rw[hg]
  have HRR:=ab9 hr;clear hg hr;go_wp2_with fail;refine(rE _ _).mono ?_;rintro e w4 ⟨rfl,hb4⟩;unfold Q7;have dh:=ab9 hb4;have HR4:=ab9 ((hb4.block _ (uh.1 rG.o).1).trans rG.o);clear hb4;go_wp2_with (refine au (by rfl) 37 _ _ (by rfl) (w.heap.size+1) (gZ (iw 26) none none 0 0) (by rfl) (by rfl) _ HR4.o bZ rfl (cO _ _ _ _ _) ?_;intro w5 hs5;have jV:=ab9 hs5;clear hs5);exact eD rfl rfl rfl jV.o.1 (by rw[HRR.o];exact CF.o _ _ _ dh.o jV.o rfl rfl)
 ·by_cases h600:600<x.data.length
  ·have hr:kU M x=(iw 3,M):=by unfold kU;rw[hg];simp only[if_pos h600]
   have HRR:=ab9 hr;have hd:decide ((600:Int)<(x.data.length:Int))=true:=by simp;omega
   have c8:w3.cell? ⟨w.heap.size,8,none⟩=some (.slice da x.data.length dc):=by simp[World.cell?,Fj.o,opC]
   clear hg hr hfv h600;go_wp2_with fail;refine(rE _ _).mono ?_;rintro e w4 ⟨rfl,hb4⟩;unfold Q7;have dh:=ab9 hb4;have HR4:=ab9 ((hb4.block _ (uh.1 rG.o).1).trans rG.o);clear hb4;go_wp2_with (refine au (by rfl) 37 _ _ (by rfl) (w.heap.size+1) (gZ (iw 3) none none 0 0) (by rfl) (by rfl) _ HR4.o bZ rfl (cO _ _ _ _ _) ?_;intro w5 hs5;have jV:=ab9 hs5;clear hs5);exact eD rfl rfl rfl jV.o.1 (by rw[HRR.o];exact CF.o _ _ _ dh.o jV.o rfl rfl)
  ·have hd:decide ((600:Int)<(x.data.length:Int))=false:=by simp;omega
   have hr:kU M x=(if (dG M.t f.id x.data).1≠0 then iw (dG M.t f.id x.data).1 else⟨0,x.data.length,[],[],none⟩,{M with t:=(dG M.t f.id x.data).2}):=by unfold kU;rw[hg];simp only[if_neg h600]
   have HRR:=ab9 hr;have Xt:(Lit.int .i64 f.id).wf=true:=by
    unfold iZ at hg;split at hg
    ·split at hg
     ·split at hg
      ·cases hg;exact HFI.o _ _ (by assumption)
      ·cases hg
     ·cases hg
    ·cases hg
   obtain⟨q,fa,fc,rfl,hq0,hq1,hq2,hq3,hq4⟩:=hfv;obtain⟨t,s,v,h1,h2,h3,h4⟩:=(nH.o.grow kr.o acf.drew).at_;have h1':w3.heap[p]? =some (.cells (Dl t s M.now v) 104 (0,0)):=h1;obtain⟨z0,z1,z2,z3,z4⟩:=iG h1';have y1:w3.cell? ⟨q,1,none⟩=some (.int .i64 f.id):=by simp[World.cell?,hq2]
   have c8:w3.cell? ⟨w.heap.size,8,none⟩=some (.slice da x.data.length dc):=by simp[World.cell?,Fj.o,opC]
   have hqd:w3.drew.heap[q]? =some (.cells #[.bool f.wr,.int .i64 f.id,.slice fa f.b.length fc] 201 (0,0)):=hq2;have hod:w3.drew.heap[w.heap.size]? =some (.cells (opC x da dc) 40 (0,0)):=Fj.o;have O4:=kr.o.step (I:=fun _=>False) (fun e=>e) (Step.grow kr.o acf.drew);have LH:=ab9 (Sv h3 O4 n2 iM.o f.id da x.data.length dc x.data Xt (uN.o.below (HB2.o.trans acf.drew) ace) HX.o.wd);have HC:acd (∀w':World,w'.heap[w.heap.size]? =some (.cells (opC x da dc) 40 (0,0))→w'.heap[q]? =some (.cells #[.bool f.wr,.int .i64 f.id,.slice fa f.b.length fc] 201 (0,0))→w'.heap[p]? =some (.cells (Dl t s M.now v) 104 (0,0))→w'.cell? ⟨p,0,none⟩=some (ptr t)∧w'.cell? ⟨q,1,none⟩=some (.int .i64 f.id)∧w'.cell? ⟨w.heap.size,8,none⟩=some (.slice da x.data.length dc)):=fun w' e1 e2 e3=>by
    refine⟨?_,?_,?_⟩<;>simp[World.cell?,e1,e2,e3,opC,Dl]
   have HQ:=ab9 (And.intro hq0 (And.intro hq1 hqd));have Xu:=ab9 h1;have HH2:=ab9 h2;have HH4:=ab9 h4;have HOD:=ab9 hod;have TI:=ab9 O4;have hsz:=HB2.o.size;have hgs:=(uh.1 rG.o).1;have HGS:=ab9 hgs;have hps:=nH.o.low;clear hg hr h600 hq0 hq2 hq3 hq4 h1 h1' h2 h3 h4 hqd hod O4 Xt z0 z1 z2 z3 z4 y1;obtain⟨ae,hae⟩:∃ae,ae=(dG M.t f.id x.data).1:=⟨_,rfl⟩;rw[←hae]at LH HRR;clear hae;go_wp2_with fail;refine xG ((fun w'=>w'.cell? ⟨p,0,none⟩=some (ptr t)∧w'.cell? ⟨q,1,none⟩=some (.int .i64 f.id)∧w'.cell? ⟨w.heap.size,8,none⟩=some (.slice da x.data.length dc))) ?_ fun hS=> ?_
   ·exact HC.o _ HOD.o HQ.o.2.2 Xu.o
   refine aR 0 hS ?_;refine aR 1 hS ?_;refine aR 2 hS ?_;refine aR 3 hS ?_;refine aR 4 hS ?_;refine aR 5 hS ?_;refine aR 6 hS ?_;refine aR 7 hS ?_;refine aR 8 hS ?_;refine aR 9 hS ?_;refine nK 10 fun K hK=> ?_;go_simp;refine LH.o.mono ?_;rintro e w4 ⟨rfl,o4,hs4,sH⟩;have h0j:¬(fun m=>m=j) 0:=fun e=>n2 e.symm;have hq4:=(hs4.block HQ.o.2.1 (by rw[HQ.o.1];exact h0j)).trans HQ.o.2.2;have hp4:=(hs4.block hps (by rw[nH.o.own];exact fun e=>n8 e.symm)).trans Xu.o;have hgo:=HL0.o;have sJ:=(hs4.block (b:=w.heap.size) (Nat.lt_trans (Nat.lt_succ_self _) HGS.o) (by rw[hgo];exact h0j)).trans HOD.o;have hr4:=(hs4.block (b:=w.heap.size+1) HGS.o (by rw[LJ.o];exact fun e=>n9 e.symm)).trans rG.o;have uO:=bT.tree (M:=M) HKK.o Xu.o HH2.o HH4.o nH.o.own hps hs4 sH;have qK:=TI.o.step h0j hs4;have pV:=ab9 uO;have mo:=ab9 qK;have HS4S:=ab9 hs4;have HL4:=ab9 ((hs4.old _ HGS.o).trans LJ.o);have HR4:=ab9 hr4;have Uq:=ab9 (HC.o _ sJ hq4 hp4);have c8':=(HC.o _ sJ hq4 hp4).2.2;clear hq4 hp4 hgo sJ hr4 uO qK hs4 sH;go_wp2_with fail;refine mQ hK (Uq.o) fun hS=> ?_;clear hK K;refine aR 11 hS ?_;refine wQ ?_;clear hS;have HEND4:acd (∀(z:wK) (w5 w6:World),Below w4.heap.size w4 w5→mE w5 (w.heap.size+1) (gZ z none none 0 0) 37 w6→z.data=[]→z.names=[]→Q8 o i j k l w p (z,{M with t:=(dG M.t f.id x.data).2}) (.returned (.agg (gZ z none none 0 0))) w6):=fun z w5 w6 hb hs hz1 hz2=>by
    have Ni:=mo.o.step (I:=fun _=>False) (fun e=>e) (Step.grow mo.o hb);have hst:=hs.step Ni HL4.o;have hS5:=(pV.o.grow mo.o hb).step (fun e=>n4 e.symm) n7 n9 n10 hst;have O5:Step o1 (fun m=>m=i∨m=j∨m=k∨m=l) w3 o4 w6:=((Step.behind kr.o acf.drew (HS4S.o.mono fun m hm=> .inr (.inl hm))).trans (Step.grow mo.o hb)).trans (hst.mono fun m hm=> .inr (.inr (.inr hm)));refine⟨o4,⟨_,rfl,none,none,0,0,rfl,by rw[hz1];exact Nat.le_refl _,by rw[hz2];exact Nat.le_refl _,by rw[hz1];exact ah.nil _ _ _,by rw[hz2];exact oh _ _⟩,(qH.o.mono fun m hm=> .inr (.inr (.inr hm))).trans O5,hS5⟩
   by_cases hz:ae=0
   ·have HZ:=ab9 hz;have hz2:(ae !=0)=false:=by simpa using hz
    clear hz;go_wp2_with (refine au (by rfl) 37 _ _ (by rfl) (w.heap.size+1) (gZ ⟨0,x.data.length,[],[],none⟩ none none 0 0) (by rfl) (by rfl) _ HR4.o bZ rfl (cO _ _ _ _ _) ?_;intro w5 hs5;have jV:=ab9 hs5;clear hs5);exact eD rfl rfl rfl jV.o.1 (by rw[HRR.o,if_neg (fun h=>h HZ.o)];exact HEND4.o _ _ _ acf jV.o rfl rfl)
   ·have HZ:=ab9 hz;have hz2:(ae !=0)=true:=by simpa using hz
    clear hz;go_wp2_with fail;refine(rE _ _).mono ?_;rintro e w5 ⟨rfl,hb5⟩;unfold Q7;have dX:=ab9 hb5;have sZ:=ab9 ((hb5.block _ (uh.1 HR4.o).1).trans HR4.o);clear hb5;go_wp2_with ((refine au (by rfl) 37 _ _ (by rfl) (w.heap.size+1) (gZ (iw ae) none none 0 0) (by rfl) (by rfl) _ sZ.o bZ rfl (cO _ _ _ _ _) ?_);intro w6 hs6;have mK:=ab9 hs6;clear hs6);exact eD rfl rfl rfl mK.o.1 (by rw[HRR.o,if_pos HZ.o];exact HEND4.o _ _ _ dX.o mK.o rfl rfl)
end
end Go.Proofs.YtmflaonodghbcaaGreatDoor
