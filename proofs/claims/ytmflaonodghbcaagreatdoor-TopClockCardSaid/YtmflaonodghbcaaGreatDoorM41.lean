/- package -/
import Derived.Test.YtmflaonodghbcaaGreatDoorM40
import Derived.Test.YtmflaonodghbcaaGreatDoorM31
import Derived.Test.YtmflaonodghbcaaGreatDoorM39
import Derived.Test.YtmflaonodghbcaaGreatDoorM38
set_option maxRecDepth 100000
set_option maxHeartbeats 64000000
set_option linter.all false
namespace Go.Proofs.YtmflaonodghbcaaGreatDoor
open Go.ChangeShapes Go.WideShapes Go.ChangeAt Go.RowKit
section
variable{W w:World}{o:Mark}{i j n d:Nat}
theorem JW{b:List UInt8}{cl:Prop}{cw:Int}(hD:dP o i w d n b cl cw)(from_:Nat)(hf:from_≤1000)(hz:∀k,from_≤k→k<gV n→secs b (je n k) 8=List.replicate 1024 0):
  Calls Tryz.prog 88 #[ptr d,.agg (aW n),.int .i64 (from_:Int)] w fun e w'=>e= .returned (.bool false)∧Below w.heap.size w w':=by
 have hl:=hD.len;obtain⟨w1,hw1⟩:∃w1,w1=w.alloc (.cells (aW n) 57):=⟨_,rfl⟩;have hb1:Below w.heap.size w w1:=by rw[hw1];exact wall w _
 have hx1:w1.heap[w.heap.size]? =some (.cells (aW n) 57 (0,0)):=by rw[hw1];exact(MapKept.heap_alloc w _).1
 have hz1:w.heap.size<w1.heap.size:=(uh.1 hx1).1;obtain⟨G,hG⟩:∃G,G=gV n:=⟨_,rfl⟩;have hsi:((n:Int)-1-2*((n:Int)/4))/8=(G:Int):=by rw[hG];unfold gV;omega
 have Ep:G≤512:=by rw[hG];unfold gV;omega
 have HP:=ab9 (fun(u:World) (hb:Below w1.heap.size w1 u)=>eB (n:=n) ((hb.block _ hz1).trans hx1));rw[hsi]at HP;have Aw:acd (∀k,from_≤k→k<G→∀u,Below w1.heap.size w1 u→Calls Tryz.prog 92 #[ptr d,.agg #[.int .i64 (n:Int),.int .i64 ((n:Int)/4),.int .i64 (G:Int)],.int .i64 (k:Int)] u fun e w'=>∃a c,e= .returned (.slice a 1024 c)∧1024≤c∧ah (fun x=>u.heap.size≤x∧x<w'.heap.size) w' a 1024 ((List.replicate 1024 (0:UInt8)).map bv)∧Below u.heap.size u w'):=ab9 fun k h0 hlt u hb=>by
  have h9:=E_ (hD.grow (hb1.trans (hb.mono hb1.size))) k (by rw[←hG];exact hlt);unfold aW at h9;rw[hsi,hz k h0 (by rw[←hG];exact hlt)]at h9;exact h9
 have HB1:=ab9 hb1;have HW1:=ab9 hw1;unfold aW at HW1⊢;rw[hsi]at HW1⊢;clear hD hb1 hx1 hw1 hz hl hG hsi;go_enter Tryz.func88,Tryz.ntmps88;go_wp2_with fail;rw[←HW1.o]
 go_loopw [7] (fun iv wr=>∃k:Nat,from_≤k∧k≤1000+G∧iv= .int .i64 k∧Below w1.heap.size w1 wr) (fun iv _=>2000+G-(intOf iv).toNat)
 case atStart=>exact⟨from_,Nat.le_refl _,by omega,rfl,Below.refl _ _⟩
 case round=>
  obtain⟨k,hk,hk2,rfl,hb⟩:=hrel;have HB:=ab9 hb;obtain⟨p0,p1,p2⟩:=HP.o _ hb;by_cases hlt:k<G
  ·have hd:decide ((k:Int)<(G:Int))=true:=aal (by omega);have hdn:decide (k<G)=true:=aal hlt;have HPK:=ab9 (Aw.o k hk hlt _ hb);clear hb;go_wp2_with fail;refine HPK.o.mono ?_;rintro e w3 ⟨a3,c3,rfl,hc3,hr3,hb3⟩;have HZ3:=ab9 (qV a3 c3 w3 hr3 hc3);have HB3:=ab9 (HB.o.trans (hb3.mono HB.o.size));clear hr3 hb3 HPK p0 p1 p2;go_wp2_with fail;refine HZ3.o.mono ?_;rintro e w4 ⟨rfl,hb4⟩;have dh:=ab9 (HB3.o.trans (hb4.mono HB3.o.size));unfold WT;clear hb4 HZ3;go_wp2_with fail;go_roundw
   case rel=>exact⟨k+1,by omega,by omega,by go_num,dh.o.trans ((wall w4 _).mono dh.o.size)⟩
   case measure=>simp[intOf];omega
  ·have hd:decide ((k:Int)<(G:Int))=false:=aaf (by omega);have hdn:decide (k<G)=false:=aaf hlt;clear hb;go_wp2_with fail;go_ret;exact⟨rfl,HB1.o.trans (HB.o.mono HB1.o.size)⟩
end
theorem rgrow0(w:World):Calls Tryz.prog 161 #[.slice none 0 0,.int .i64 0] w fun e w'=>e= .returned (.slice none 0 0)∧Below w.heap.size w w':=by
 have HB:=ab9 (Below.refl w.heap.size w);go_enter Tryz.func161,Tryz.ntmps161;go_wp2_with fail;go_ret;exact⟨rfl,HB.o⟩
theorem XW(w:World):Calls Tryz.prog 89 #[.slice none 0 0] w fun e w'=>e= .returned (.slice none 0 0)∧Below w.heap.size w w':=by
 have HG:=ab9 (rgrow0 w);go_enter Tryz.func89,Tryz.ntmps89;go_wp2_with fail
 go_loopw [3,11] (fun s i wr=>s= .int .i64 0∧i= .int .i64 0∧wr=w) (fun _ _ _=>0)
 case atStart=>exact⟨rfl,rfl,rfl⟩
 case round=>
  obtain⟨rfl,rfl,rfl⟩:=hrel;go_wp2_with fail;refine HG.o.mono ?_;rintro e w1 ⟨rfl,hb1⟩;have HB1:=ab9 hb1;clear hb1 HG;go_wp2_with fail
  go_loopw [6,27] (fun v i wr'=>v= .slice none 0 0∧i= .int .i64 0∧wr'=w1) (fun _ _ _=>0)
  case atStart=>exact⟨rfl,rfl,rfl⟩
  case round=>
   obtain⟨rfl,rfl,rfl⟩:=hrel;go_wp2_with fail;go_ret;exact⟨rfl,HB1.o⟩
def vR(n:Nat)(ia:Option Addr)(ic:Nat)(gen seq dx recs:Int)(ha:Option Addr)(hc:Nat):Array Value:= #[.int .i64 (n:Int),.int .i64 ((n:Int)/4),.int .i64 (((n:Int)-1-2*((n:Int)/4))/8),.slice ia 16 ic,.int .u64 gen,.int .u64 seq,.int .i64 dx,.int .i64 recs,.slice ha 32 hc]
def yJ:Array Value:= #[.int .i64 0,.int .i64 0,.int .i64 0,.slice none 0 0,.int .u64 0,.int .u64 0,.int .i64 0,.int .i64 0,.slice none 0 0]
theorem yK:(Tryz.prog.info? 59).map (·.size)=some 9:=by kernel_rfl
theorem Ab(n:Nat)(ia:Option Addr)(ic:Nat)(gen seq dx recs:Int)(ha:Option Addr)(hc:Nat):(vR n ia ic gen seq dx recs ha hc).all (·.oneCell')=true:=by simp[vR,Value.oneCell']
theorem ret_fd4{fn:Func}{sa sb sl sd:Nat}{Q:Ending→World→Prop}{a:Act}{w:World}{b:Nat}{cs:Array Value}{x y z:Value}(hf:fn.results= #[.tmp sa,.tmp sb,.cell sl 59,.tmp sd])(hx:a.tmps.getD sa undef=x)(hy:a.tmps.getD sb undef=y)(hs:a.tmps.getD sl undef= .pointer (some ⟨b,0,none⟩))(hz:a.tmps.getD sd undef=z)(hd:a.defers=[])(hg:w.heap[b]? =some (.cells cs 59 (0,0)))(h3:cs.size=9)(hQ:Q (.returned (.tuple #[x,y,.agg cs,z])) w):
  bodyPost Tryz.prog fn Q .ret a w:=by
 subst hx hy hz;have hl:=aaT w b 59 59 _ (0,0) _ hg Tryz.underlying59 rfl (by rw[h3];exact yK);have ha2:a.tmps[sl]?.getD undef= .pointer (some ⟨b,0,none⟩):=by simpa using hs
 exact aap (v:= .tuple #[a.tmps.getD sa undef,a.tmps.getD sb undef,.agg cs,a.tmps.getD sd undef]) (by simp[results,hf,asAddr,ha2,hl]) hd hQ
theorem qw{w:World}{n b:Nat}{ia ha:Option Addr}{ic hc:Nat}{gen seq dx recs:Int}(h:w.heap[b]? =some (.cells (vR n ia ic gen seq dx recs ha hc) 59 (0,0))):w.cell? ⟨b,0,none⟩=some (.int .i64 (n:Int))∧w.cell? ⟨b,1,none⟩=some (.int .i64 ((n:Int)/4))∧w.cell? ⟨b,2,none⟩=some (.int .i64 (((n:Int)-1-2*((n:Int)/4))/8))∧w.cell? ⟨b,3,none⟩=some (.slice ia 16 ic)∧w.cell? ⟨b,4,none⟩=some (.int .u64 gen)∧w.cell? ⟨b,5,none⟩=some (.int .u64 seq)∧w.cell? ⟨b,6,none⟩=some (.int .i64 dx)∧w.cell? ⟨b,7,none⟩=some (.int .i64 recs)∧w.cell? ⟨b,8,none⟩=some (.slice ha 32 hc):=by
 refine⟨?_,?_,?_,?_,?_,?_,?_,?_,?_⟩<;>simp[World.cell?,h,vR]
structure XY(n:Nat)(b:List UInt8)(id:List UInt8)(c:Int)(x y:wT)(M N:dN):Prop where
 idl:id.length=16
 super:rowsOf b 0=jl n id
 p0:secs b (bE n 0) (n/4)=xJ n x
 p1:secs b (bE n 1) (n/4)=xJ n y
 ok0:Pv n c x M
 ok1:Pv n c y N
def XZ(x y z:wT)(M N L:dN):Prop:=(y.gen≤x.gen∧z=x∧L=M)∨(¬y.gen≤x.gen∧z=y∧L=N)
structure Last(n:Nat)(b:List UInt8)(id:List UInt8)(z:wT)(k:Nat):Prop where
 dx:z.dx=(k:Int)
 few:k≤gV n
 seq:z.seq<1099511627776
 first:k=0→z.head=JF id∧z.seq=0
 zero:∀i,k≤i→i<gV n→secs b (je n i) 8=List.replicate 1024 0
abbrev Mm(j:Nat):Nat→Prop:=fun m=>j≤m∧m≤j+20
def MtGive(W:World)(o:Mark)(j:Nat)(w:World)(n d:Nat)(id:List UInt8)(c:Int)(z:wT)(k:Nat)(L:dN)(e:Ending)(w':World):Prop:=
 ∃q p ia ic ha hc o',e= .returned (.tuple #[ptr q,ptr p,.agg (vR n ia ic z.gen z.seq k 0 ha hc),.int .i64 0])∧Step o (Mm j) w o' w'∧xK W o' (j+14) w' q c (iH (iH L))∧jm o' (j+20) w' p n d ⟨k,z.head,z.seq+1,[]⟩∧ah (Free o' w') w' ia 16 (id.map bv)∧ah (Free o' w') w' ha 32 (z.head.map bv)
def MtCut(w u:World)(g:Nat)(a:Option Addr)(c:Nat)(head:List UInt8)(n:Nat)(ia:Option Addr)(ic:Nat)(gen seq:Int)(k:Nat):Prop:=
 Below w.heap.size w u∧u.heap[g]? =some (.cells (vR n ia ic gen seq k 0 a c) 59 (0,0))∧w.heap.size≤g∧32≤c∧ah (fun b=>w.heap.size≤b∧b<u.heap.size∧b≠g) u a 32 (head.map bv)
section
variable{W w:World}{o:Mark}{i j n d:Nat}
theorem PG{b:List UInt8}{cl:Prop}{cw c:Int}(hD:dP o i w d n b cl cw)(hM:Marks W o w)(hj:0<j)(hij:i<j)(hf:∀x,o x≠j+15)(id:List UInt8)(x y z:wT)(M N L:dN)(k:Nat)(hI:XY n b id c x y M N)(hN:XZ x y z M N L)(hL:Last n b id z k):
  Calls Tryz.prog 29 #[ptr d] w (MtGive W o j w n d id c z k L):=by
 have hl:=hD.len;obtain⟨w1,hw1⟩:∃w1,w1=w.alloc (.cells yJ 59):=⟨_,rfl⟩;have hb1:Below w.heap.size w w1:=by rw[hw1];exact wall w _
 have hx1:w1.heap[w.heap.size]? =some (.cells yJ 59 (0,0)):=by rw[hw1];exact(MapKept.heap_alloc w _).1
 have hz1:w.heap.size<w1.heap.size:=(uh.1 hx1).1;obtain⟨o1,ho1,hk1,hk2⟩:=dI hM (j+13) (fun y=>y=w.heap.size) (w':=w1) (fun y hy=>by subst hy;omega) hb1;have hM1:=hM.step (fun e=>by omega) ho1;have hD1:=hD.step (fun e=>by omega) ho1;have Py:=ab9 (Pz hD1 id hI.idl hI.super);have HNW:acd (∀(u:World) (hb:Below w1.heap.size w1 u),Calls Tryz.prog 86 #[ptr d,.agg (aW n)] u fun e w'=>∃jz,(jz=j∨jz=j+6)∧Fx W o1 j jz u c z L e w'):=ab9 fun u hb=>(PE (hD1.grow hb) (hM1.grow hb) hj hij x y M N hI.ok0 hI.ok1 hI.p0 hI.p1).mono fun e w' h=>by
  rcases h with⟨h1,h2⟩|⟨h1,h2⟩<;>rcases hN with⟨h3,rfl,rfl⟩|⟨h3,rfl,rfl⟩
  ·exact⟨j,.inl rfl,h2⟩
  ·exact absurd h1 h3
  ·exact absurd h3 h1
  ·exact⟨j+6,.inr rfl,h2⟩
 have hzm:0≤z.seq:=by
  rcases hN with⟨h3,rfl,rfl⟩|⟨h3,rfl,rfl⟩
  ·exact hI.ok0.mark.seq.1
  ·exact hI.ok1.mark.seq.1
 have HI:=ab9 hI;have HM:=ab9 hM;have kr:=ab9 hM1;have HD1:=ab9 hD1;have HO1:=ab9 ho1;have HW1:=ab9 hw1;have qG:=ab9 hx1;have AL:=ab9 (hk1 _ rfl);have HF:=ab9 (miss hf (by omega) (fun e=>by omega) ho1);have HL:=ab9 hL;have J7:=ab9 hl;unfold yJ at HW1;unfold aW at HNW;clear hD hM hI hN hL hw1 hb1 hx1 ho1 hM1 hD1 hk1 hk2 hf hl;go_enter Tryz.func29,Tryz.ntmps29;go_wp2_with fail;rw[←HW1.o];refine Py.o.mono ?_;unfold aW;rintro e w2 ⟨ia,ic,rfl,hic,hr2,hb2⟩;have hz2:=hb2.size;obtain⟨w3,hw3⟩:∃w3,w3=w2.alloc (.cells (aW n) 57):=⟨_,rfl⟩;have hb3:Below w2.heap.size w2 w3:=by rw[hw3];exact wall w2 _
 have hx3:w3.heap[w2.heap.size]? =some (.cells (aW n) 57 (0,0)):=by rw[hw3];exact(MapKept.heap_alloc w2 _).1
 have hz3:w2.heap.size<w3.heap.size:=(uh.1 hx3).1;have X0:=ab9 (hb2.trans (hb3.mono hz2));have uJ:=ab9 (kr.o.grow X0.o);have D9:o1 w2.heap.size=0:=Vh fun h9=>by have:=(kr.o.new _ h9).2;omega
 have HX3:=ab9 hx3;have Ji:=ab9 D9;have HIA:=ab9 ((hr2.below hb3 ace).mono fun y hy=>(⟨Vh fun h9=>by have:=(kr.o.new y h9).2;have:=hy.1;omega,by have:=hy.2;omega⟩:Free o1 w3 y));have lV:=ab9 (HNW.o w3 X0.o);have HP:=ab9 (fun(o3:Mark) (u:World) (I:Nat→Prop) (h0:¬I 0) (hs:Step o1 I w3 o3 u)=>eB (n:=n) ((hs.block (by omega) (by rw[Ji.o];exact h0)).trans HX3.o));obtain⟨p0,p1,p2⟩:=eB hx3;unfold aW at hw3;rw[hw3]at p0 p1 p2;clear hr2 hb2 hb3 hx3 D9 Py HNW;go_wp2_with fail;rw[←hw3];clear hw3 p0 p1 p2;refine lV.o.mono ?_;rintro e w4 ⟨jz,hjz,ha,hc,sa,sc,q,o4,rfl,hs4,uO,hr4⟩;have hz4:=hs4.keep.size;have qK:=uO.marks;obtain⟨w5,oL⟩:∃w5,w5=w4.alloc (.cells (n_ z ha hc sa z.state.length sc) 91):=⟨_,rfl⟩;have hb5:Below w4.heap.size w4 w5:=by rw[oL];exact wall w4 _
 have hx5:w5.heap[w4.heap.size]? =some (.cells (n_ z ha hc sa z.state.length sc) 91 (0,0)):=by rw[oL];exact(MapKept.heap_alloc w4 _).1
 have hz5:w4.heap.size<w5.heap.size:=(uh.1 hx5).1;have h0n:¬Nw j 0:=fun e=>by have:=e.1;omega
 have hs5:Step o1 (Nw j) w3 o4 w5:=hs4.then_ uJ.o h0n hb5;have hn5:o4 w4.heap.size=0:=Vh fun h9=>by have:=(qK.new _ h9).2;omega
 have jV:=ab9 hs5;have Gw:=ab9 (uO.grow hb5);have vI:=ab9 (qK.grow hb5);have HX5:=ab9 hx5;have HN5:=ab9 hn5;have HHA:=ab9 (hr4.grow' hb5 qK);have HD5:=ab9 ((HD1.o.grow X0.o).step (fun e=>by have:=e.1;omega) hs5);have HIA5:=ab9 (HIA.o.free h0n hs5);have HLO:=ab9 (l_open HD5.o vI.o (by omega:j+20≠0) k HL.o.few id z.head (z.seq+1) (by have:=HL.o.seq;omega) (fun h=>⟨(HL.o.first h).1,by rw[(HL.o.first h).2];rfl⟩) (fun h=>HL.o.zero k ace h) ia ic HIA5.o ha hc HHA.o);obtain⟨p0,p1,p2⟩:=HP.o o4 w5 _ h0n hs5;obtain⟨c0,c1,c2,c3,c4⟩:=iF hx5;have hsg:=HL.o.dx;rw[hsg]at c2;have d1:decide (1099511627776≤z.seq)=false:=aaf (by have:=HL.o.seq;omega);have Wn:=HL.o.seq;unfold n_ at oL⊢;unfold aW at HLO;rw[hsg]at oL⊢;have qB:=ab9 oL;rw[oL]at c0 c1 c2 c3 c4 p0 p1 p2;clear hs4 uO hr4 qK hb5 hx5 hn5 hs5 oL hsg lV;go_wp2_with fail;rw[←qB.o]at c0 c1 c2 c3 c4 p0 p1 p2⊢;refine HLO.o.mono ?_;rintro e w6 ⟨p,o6,rfl,hs6,hL6,hb6⟩;have h0l:¬(0=j+20):=by omega
 have hz6:=hb6.size;have oK:=ab9 hb6;have mK:=ab9 hs6;have HL6:=ab9 hL6;have Ak:=ab9 (vI.o.step h0l hs6);have hs16:Step o1 (fun m=>Nw j m∨m=j+20) w3 o6 w6:=(jV.o.mono fun m hm=> .inl hm).trans (hs6.mono fun m hm=> .inr hm);have Uz:¬(Nw j 0∨0=j+20):=fun e=>by rcases e with e|e<;>omega
 have HS16:=ab9 hs16;have Rf:∀u:World,Below w6.heap.size w6 u→_:=fun u hb=>HP.o o6 u _ Uz (hs16.then_ uJ.o Uz hb);have hp0:∀u:World,Below w6.heap.size w6 u→u.cell? ⟨w2.heap.size,0,none⟩=some (.int .i64 (n:Int)):=fun u hb=>(Rf u hb).1;have hp1:∀u:World,Below w6.heap.size w6 u→u.cell? ⟨w2.heap.size,1,none⟩=some (.int .i64 ((n:Int)/4)):=fun u hb=>(Rf u hb).2.1;have hp2:∀u:World,Below w6.heap.size w6 u→u.cell? ⟨w2.heap.size,2,none⟩=some (.int .i64 (((n:Int)-1-2*((n:Int)/4))/8)):=fun u hb=>(Rf u hb).2.2;have hmk:∀u:World,Below w6.heap.size w6 u→_:=fun u hb=>iF ((hb.block _ (by omega)).trans ((hs6.block (by omega) (by rw[HN5.o];exact h0l)).trans HX5.o));have hc0:∀u:World,Below w6.heap.size w6 u→u.cell? ⟨w4.heap.size,0,none⟩=some (.int .u64 z.gen):=fun u hb=>(hmk u hb).1;have hc1:∀u:World,Below w6.heap.size w6 u→u.cell? ⟨w4.heap.size,1,none⟩=some (.int .u64 z.seq):=fun u hb=>(hmk u hb).2.1;have Gh:acd (∀u:World,Below w6.heap.size w6 u→Calls Tryz.prog 81 #[ptr p] u fun e u'=>e= .returned (.int .i64 (k:Int))∧u=u'):=ab9 fun u hb=>E9 (HL6.o.grow Ak.o hb);have YT:acd (∀u:World,Below w6.heap.size w6 u→Calls Tryz.prog 82 #[ptr p] u fun e u'=>∃a c,e= .returned (.slice a 32 c)∧32≤c∧ah (fun b=>u.heap.size≤b∧b<u'.heap.size) u' a 32 (z.head.map bv)∧Below u.heap.size u u'):=ab9 fun u hb=>Xi (HL6.o.grow Ak.o hb);have hd6:=HD5.o.step (fun e=>by omega) hs6;have Ed:k≤600:=by have:=HL.o.few;have:=J7.o.2.2;unfold gV at*;omega
 have HBH:acd (∀u:World,Below w6.heap.size w6 u→Calls Tryz.prog 88 #[ptr d,.agg (aW n),.int .i64 ((k:Int)+1)] u fun e w'=>e= .returned (.bool false)∧Below u.heap.size u w'):=ab9 fun u hb=>by
  have h9:=JW (hd6.grow hb) (k+1) (by omega) (fun i hi=>HL.o.zero i (by omega))
  rwa [show((k+1:Nat):Int)=(k:Int)+1 by omega]at h9
 have yI:acd (xK W o6 jz w6 q c (iH L)):=ab9 ⟨Gw.o.st.step h0l (by omega) (by omega) (by omega) hs6,Ak.o,Gw.o.ok⟩;unfold aW at HBH;have ewr:IntKind.i64.wrap ((k:Int)+1)=(k:Int)+1:=by rw[aah _ (by omega)]
 clear hs6 hL6 hb6 hs16 Rf hmk hd6 HLO c0 c1 c2 c3 c4 p0 p1 p2;go_wp2_with fail;refine xG ((fun w'=>Below w6.heap.size w6 w')) ?_ fun hS=> ?_
 ·exact acf.drew
 refine aR 0 hS ?_;refine aR 1 hS ?_;refine aR 2 hS ?_;refine aR 3 hS ?_;refine aR 4 hS ?_;refine aR 5 hS ?_;refine nK 6 fun K hK=> ?_;go_simp;refine(Gh.o _ hS).mono ?_;rintro e _ ⟨rfl,rfl⟩;go_wp2_with fail;refine mQ hK (hS) fun hS=> ?_;clear hK K;refine aR 7 hS ?_;refine nK 8 fun K hK=> ?_;go_simp;refine(HBH.o _ hS).mono ?_;rintro e w7 ⟨rfl,iR⟩;have jw:=ab9 (hS.trans (iR.mono hS.size));clear iR;go_wp2_with fail;refine mQ hK (jw.o) fun hS=> ?_;clear hK K;refine aR 9 hS ?_;refine wQ ?_;clear hS;go_wp2_with fail;refine Di (P:=∀(u:World) (g:Nat) (a9:Option Addr) (c9:Nat),MtCut w6 u g a9 c9 z.head n ia ic z.gen z.seq k→(?G:World→Nat→Option Addr→Nat→Prop) u g a9 c9) (fun key=> ?r1) ?r2
 case' r1=>
  refine Cv 12 ((fun w'=>Below w6.heap.size w6 w')) ?_ fun hS=> ?_
  ·exact jw.o.drew
  refine aY 0 hS ?_;refine aY 1 hS ?_;refine aY 2 hS ?_;refine aY 3 hS ?_;refine aY 4 hS ?_;refine aY 5 hS ?_;refine aY 6 hS ?_;refine aY 8 hS ?_;refine sM 7 11 (fun K hK=> ?_) fun K hK=> ?_
  case' refine_2=>
   go_simp;have hA:=(jw.o.alloc jw.o.size (.cells yJ 59)).drew;have hq:(w7.alloc (.cells yJ 59)).drew.heap[w7.heap.size]? =some (.cells yJ 59 (0,0)):=(MapKept.heap_alloc w7 (.cells yJ 59)).1;unfold yJ at hA hq;have Ep:=jw.o.size;refine dK hK (hA) fun hS=> ?_;clear hK K;obtain⟨u8,hu8⟩:∃u8,u8=(w7.alloc (.cells yJ 59)).drew:=⟨_,rfl⟩;unfold yJ at hu8;obtain⟨g,hg⟩:∃g,g=w7.heap.size:=⟨_,rfl⟩;rw[←hu8]at hS hq hA⊢;rw[←hg]at hq Ep⊢;clear hu8 hg;refine dW 7 fun K hK=> ?_;go_simp;refine(Gh.o _ hS).mono ?_;rintro e _ ⟨rfl,rfl⟩;go_wp2_with fail;refine dK hK (hS) fun hS=> ?_;clear hK K;refine dW 9 fun K hK=> ?_;go_simp;refine(YT.o _ hS).mono ?_;rintro e u9 ⟨a9,c9,rfl,xw,jK,iT⟩;have Io:=hS.trans (iT.mono hS.size);have hz9:=hS.size;have Ux:g<u8.heap.size:=(uh.1 hq).1;have MX:=(iT.block g Ux).trans hq;have jK:=jK.mono (fun y hy=>(⟨by have:=hy.1;omega,hy.2,by have:=hy.1;omega⟩:w6.heap.size≤y∧y<u9.heap.size∧y≠g));clear iT Ux hq hA hz9;go_wp2_with fail;refine dK hK (Io) fun hS=> ?_;clear hK K;refine aY 10 hS ?_
  case' refine_1=>
   go_simp;refine(Gh.o _ hS).mono ?_;rintro e _ ⟨rfl,rfl⟩;go_wp2_with fail;refine dK hK (hS) fun hS=> ?_;clear hK K;refine sM 9 11 (fun K hK=> ?_) fun K hK=> ?_
   case' refine_2=>
    go_simp;have hA:=(jw.o.alloc jw.o.size (.cells yJ 59)).drew;have hq:(w7.alloc (.cells yJ 59)).drew.heap[w7.heap.size]? =some (.cells yJ 59 (0,0)):=(MapKept.heap_alloc w7 (.cells yJ 59)).1;unfold yJ at hA hq;have Ep:=jw.o.size;refine dK hK (hA) fun hS=> ?_;clear hK K;obtain⟨u8,hu8⟩:∃u8,u8=(w7.alloc (.cells yJ 59)).drew:=⟨_,rfl⟩;unfold yJ at hu8;obtain⟨g,hg⟩:∃g,g=w7.heap.size:=⟨_,rfl⟩;rw[←hu8]at hS hq hA⊢;rw[←hg]at hq Ep⊢;clear hu8 hg;refine dW 9 fun K hK=> ?_;go_simp;refine(YT.o _ hS).mono ?_;rintro e u9 ⟨a9,c9,rfl,xw,jK,iT⟩;have Io:=hS.trans (iT.mono hS.size);have hz9:=hS.size;have Ux:g<u8.heap.size:=(uh.1 hq).1;have MX:=(iT.block g Ux).trans hq;have jK:=jK.mono (fun y hy=>(⟨by have:=hy.1;omega,hy.2,by have:=hy.1;omega⟩:w6.heap.size≤y∧y<u9.heap.size∧y≠g));clear iT Ux hq hA hz9;go_wp2_with fail;refine dK hK (Io) fun hS=> ?_;clear hK K;refine aY 10 hS ?_
   case' refine_1=>
    go_simp;refine(YT.o _ hS).mono ?_;rintro e u8 ⟨a9,c9,rfl,xw,jK,iT⟩;have FL:=hS.trans (iT.mono hS.size);have hz9:=hS.size;have Ep:=FL.size;clear iT;go_wp2_with fail;refine dK hK (FL) fun hS=> ?_;clear hK K;refine aY 10 hS ?_;refine dW 11 fun K hK=> ?_;go_simp;have Io:=(hS.alloc hS.size (.cells yJ 59));have MX:=(MapKept.heap_alloc u8 (.cells yJ 59)).1;have jK:=(jK.below (wall u8 (.cells yJ 59)) ace).mono (fun y hy=>(⟨by have:=hy.1;omega,by have:=hy.2;have h9:=(wall u8 (.cells yJ 59)).size;omega,by have:=hy.2;omega⟩:w6.heap.size≤y∧y<(u8.alloc (.cells yJ 59)).heap.size∧y≠u8.heap.size));unfold yJ at Io MX jK;refine dK hK (Io) fun hS=> ?_;clear hK K;obtain⟨u9,hu9⟩:∃u9,u9=u8.alloc (.cells yJ 59):=⟨_,rfl⟩;unfold yJ at hu9;obtain⟨g,hg⟩:∃g,g=u8.heap.size:=⟨_,rfl⟩;rw[←hu9]at hS Io MX jK⊢;rw[←hg]at MX jK Ep⊢;clear hu9 hg FL hz9
  all_goals
   refine dW 12 fun K hK=> ?_;refine eY (by rfl) 59 (.tmp 14) (.tmp 81) (by rfl) g (vR n ia ic z.gen z.seq k 0 a9 c9) (by rfl) (by rfl) _ MX yK rfl (Ab _ _ _ _ _ _ _ _ _) ?_;intro u hu;have hBu:=hu.below hS Ep;have hkey:MtCut w6 u g a9 c9 z.head n ia ic z.gen z.seq k:=⟨hBu,hu.1,Ep,xw,(jK.kept hu.2.1.size fun b hb hbw=>hu.2.1.block b hbw fun(e:b=g)=>hb.2.2 e).mono fun y hy=>⟨hy.1,by rw[hu.2.2];exact hy.2.1,hy.2.2⟩⟩;clear hu jK MX;refine sN hK ?_;clear hS hK K;exact key u g a9 c9 hkey
 case r2=>
  intro u g a9 c9 hcut;clear hp0 hp1 hp2 hc0 hc1 d1 Gh YT HBH;have u_:=ab9 hcut;have Uq:=ab9 (XW u);clear hcut;go_wp2_with fail;refine Uq.o.mono ?_;rintro e w8 ⟨rfl,gJ⟩;have nG:=ab9 (u_.o.1.trans (gJ.mono u_.o.1.size));have hx8:=(gJ.block g (uh.1 u_.o.2.1).1).trans u_.o.2.1;have HX8:=ab9 hx8;have Nq:=ab9 (u_.o.2.2.2.2.below gJ ace);have HZ8:=ab9 gJ.size;clear gJ hx8 Uq;go_wp2_with fail
  go_loopw [10,11,85] (fun s ok i wr=>s=ptr q∧ok= .bool true∧i= .int .i64 0∧wr=w8) (fun _ _ _ _=>0)
  case atStart=>exact⟨rfl,rfl,rfl,rfl⟩
  case round=>
   obtain⟨rfl,rfl,rfl,rfl⟩:=hrel;have hz8:=nG.o.size;have hn9:o6 g=0:=Vh fun h9=>by have:=(Ak.o.new _ h9).2;have:=u_.o.2.2.1;omega
   have hgw:=(uh.1 HX8.o).1;have J_:=ab9 (Ak.o.grow nG.o);have h5z:¬Five (j+14) 0:=fun e=>by have:=e.1;omega
   have hm15:∀b,o6 b≠j+14+1:=fun b=>miss HF.o (by omega) (fun e=>by rcases e with e|e<;>omega) HS16.o b;have Zg:=ab9 (Pt ((yI.o.grow nG.o).grow acf.drew) (by omega) (j+14) (by omega) hm15);have TI:=ab9 (J_.o.grow (Below.refl _ wr).drew);have uj:=fun(o9:Mark) (u9:World) (hs:Step o6 (Five (j+14)) wr.drew o9 u9)=>qw ((hs.block (b:=g) hgw (by rw[hn9];exact h5z)).trans HX8.o);have U1:=ab9 uj;clear uj hm15;go_wp2_with fail;refine xG ((fun w'=>w'.cell? ⟨g,0,none⟩=some (.int .i64 (n:Int))∧w'.cell? ⟨g,1,none⟩=some (.int .i64 ((n:Int)/4))∧w'.cell? ⟨g,2,none⟩=some (.int .i64 (((n:Int)-1-2*((n:Int)/4))/8))∧w'.cell? ⟨g,3,none⟩=some (.slice ia 16 ic)∧w'.cell? ⟨g,4,none⟩=some (.int .u64 z.gen)∧w'.cell? ⟨g,5,none⟩=some (.int .u64 z.seq)∧w'.cell? ⟨g,6,none⟩=some (.int .i64 (k:Int))∧w'.cell? ⟨g,7,none⟩=some (.int .i64 0)∧w'.cell? ⟨g,8,none⟩=some (.slice a9 32 c9))) ?_ fun hS=> ?_
   ·exact U1.o o6 _ (Step.grow TI.o acf)
   refine aR 0 hS ?_;refine aR 2 hS ?_;refine aR 3 hS ?_;refine nK 1 fun K hK=> ?_;go_simp;refine Zg.o.mono ?_;rintro e w9 ⟨q9,o9,rfl,Gd,hS9⟩;have X3:=ab9 Gd;have Aa:=ab9 hS9;clear Gd hS9 Zg;go_wp2_with fail;refine mQ hK (U1.o o9 w9 X3.o) fun hS=> ?_;clear hK K;refine aR 4 hS ?_;refine aR 5 hS ?_;refine nK 6 fun K hK=> ?_;have h0n':¬(Nw j (j+13)∨j+13=j+20):=fun e=>by rcases e with e|e<;>omega
   have Gf:o6 w.heap.size=j+13:=(HS16.o.old _ (by omega)).trans AL.o;have hm9:o9 w.heap.size=j+13:=(X3.o.old _ (by have:wr.heap.size=wr.drew.heap.size:=rfl;omega)).trans Gf;have hres9:w9.heap[w.heap.size]? =some (.cells yJ 59 (0,0)):=(X3.o.block (by have:wr.heap.size=wr.drew.heap.size:=rfl;omega) (by rw[Gf];exact fun e=>by have:=e.1;omega)).trans (((nG.o.drew).block _ (by omega)).trans ((HS16.o.block (by omega) (by rw[AL.o];exact h0n')).trans ((X0.o.block _ hz1).trans qG.o)));refine eY (by rfl) 59 (.tmp 4) (.tmp 109) (by rfl) w.heap.size (vR n ia ic z.gen z.seq k 0 a9 c9) (by rfl) (by rfl) _ hres9 yK rfl (Ab _ _ _ _ _ _ _ _ _) ?_;intro wG hG;have sw:Step o9 (fun m=>m=j+13) w9 o9 wG:=hG.step Aa.o.marks hm9;have hzG:¬(0=j+13):=by omega
   have HG:=ab9 hG;have nE:=ab9 sw;have hgG:wG.heap[g]? =some (.cells (vR n ia ic z.gen z.seq k 0 a9 c9) 59 (0,0)):=(hG.2.1.block g (by have:=X3.o.keep.size;have:wr.heap.size=wr.drew.heap.size:=rfl;omega) (fun e:g=w.heap.size=>by have:=u_.o.2.2.1;omega)).trans ((X3.o.block (b:=g) hgw (by rw[hn9];exact h5z)).trans HX8.o);clear hG sw hres9 Gf hm9;refine mQ hK (qw hgG) fun hS=> ?_;clear hK K;refine aR 7 hS ?_;refine wQ ?_;go_wp2_with fail;refine ret_fd4 rfl rfl rfl rfl rfl rfl HG.o.1 rfl ?_;have hsz:wr.heap.size=wr.drew.heap.size:=rfl;have hN0:¬(Nw j 0∨0=j+20):=Uz;have st1:Step o (Mm j) w o1 w3:=(HO1.o.mono fun m hm=>⟨by omega,by omega⟩).then_ HM.o (fun e=>by have:=e.1;omega) X0.o;have st2:Step o (Mm j) w o6 wr.drew:=(st1.trans (HS16.o.mono fun m hm=>⟨by rcases hm with h|h<;>omega,by rcases hm with h|h<;>omega⟩)).then_ HM.o (fun e=>by have:=e.1;omega) (nG.o.drew);have st3:Step o (Mm j) w o9 wG:=(st2.trans (X3.o.mono fun m hm=>⟨by have:=hm.1;omega,by have:=hm.2;omega⟩)).trans (nE.o.mono fun m hm=>⟨by omega,by omega⟩);have HLG:=((((HL6.o.grow Ak.o nG.o.drew).step h5z (fun e=>by have:=e.2;omega) X3.o)).step hzG (by omega) nE.o);have hia:=((((HIA5.o.free h0l mK.o).grow' nG.o.drew Ak.o).free h5z X3.o).free hzG nE.o);have hha:=(((ah.mono (Nq.o.below (Below.refl _ wr).drew ace) fun y hy=>(⟨Vh fun h9=>by have:=(Ak.o.new y h9).2;have:=hy.1;omega,by have:=hy.2.1;have:=HZ8.o;omega⟩:Free o6 wr.drew y)).free h5z X3.o).free hzG nE.o);exact⟨q9,p,ia,ic,a9,c9,o9,rfl,st3,⟨Aa.o.st.step hzG (by omega) (by omega) (by omega) nE.o,Aa.o.marks.step hzG nE.o,Aa.o.ok⟩,HLG,hia,hha⟩
end
def M6(id:List UInt8)(g:Nat):wT:=⟨(g:Int),0,0,JF id,fV og⟩
def fmtK(n:Nat)(b:List UInt8)(id:List UInt8):Nat→List UInt8
 |0=>b
 |k+1=>splice (fmtK n b id k) (bE n ((k+1)%2)*128) (xJ n (M6 id (k+1)))
def fmtB(n:Nat)(b:List UInt8)(id:List UInt8):List UInt8:=fmtK n (splice (splice b (0*128) (jl n id)) (1*128) (List.replicate ((n-1)*128) 0)) id 2
abbrev Fm(i j:Nat):Nat→Prop:=fun m=>m=i∨(j≤m∧m≤j+4)
theorem Fz(n:Nat)(hn:64≤n)(id:List UInt8)(g:Nat)(h1:1≤g)(h2:g≤2):Bu n (M6 id g):=
 ⟨⟨by show(1:Int)≤(g:Int);omega,by show(g:Int)≤1099511627776;omega⟩,⟨Int.le_refl _,by show(0:Int)≤1099511627776;omega⟩,⟨Int.le_refl _,by show(0:Int)≤((n:Int)-1-2*((n:Int)/4))/8;omega⟩,by show(JF id).length=32;unfold JF;rw[dY]⟩
section
variable{W w:World}{o:Mark}{i j n d:Nat}
theorem Mh{b:List UInt8}{cl:Prop}{c:Int}(hD:dP o i w d n b cl c)(hM:Marks W o w)(hi:i≠0)(hj:0<j)(hij:i<j)(hc:c≤100000)(id:List UInt8)(hid:id.length=16)(hroom:((fV og).length:Int)≤gu n)(ia:Option Addr)(ic:Nat)(hr:ah (Free o w) w ia 16 (id.map bv)):
  Calls Tryz.prog 11 #[ptr d,.slice ia 16 ic] w fun e w'=>e= .returned (.int .i64 0)∧∃o',Step o (Fm i j) w o' w'∧dP o' i w' d n (fmtB n b id) True (c+10000):=by
 have hl:=hD.len;have YL:=ab9 (ql hD);have Py:=ab9 (Ho n hl.2.1 hl.2.2 id hid ia ic w hr);have QH:=ab9 (fun u=>wu n hl.2.1 hl.2.2 u);have hsl:=tL n hid;have HD:=ab9 hD;have HM:=ab9 hM;have HR:=ab9 hr;have HL:=ab9 hl;clear hD hM hr hl;go_enter Tryz.func11,Tryz.ntmps11;go_wp2_with fail;refine YL.o.mono ?_;rintro e _ ⟨rfl,rfl⟩;go_wp2_with fail;refine Py.o.mono ?_;rintro e w1 ⟨a1,n1,c1,rfl,hc1,hr1,hb1⟩;obtain rfl:n1=128:=by have:=hr1.length;rw[List.length_map,hsl]at this;exact this.symm
 have hz1:=hb1.size;have HSC1:=ab9 (ql (HD.o.grow hb1));have HB1:=ab9 hb1;have HR1:=ab9 hr1;unfold aW at QH;clear hr1 hb1 YL Py;go_wp2_with fail;refine HSC1.o.mono ?_;rintro e _ ⟨rfl,rfl⟩;go_wp2_with fail;refine(QH.o w1).mono ?_;rintro e w2 ⟨rfl,hb2⟩;have hz2:=hb2.size;obtain⟨w3,hw3⟩:∃w3,w3=w2.alloc (.cells (aW n) 57):=⟨_,rfl⟩;have hb3:Below w2.heap.size w2 w3:=by rw[hw3];exact wall w2 _
 have hx3:w3.heap[w2.heap.size]? =some (.cells (aW n) 57 (0,0)):=by rw[hw3];exact(MapKept.heap_alloc w2 _).1
 have hz3:w2.heap.size<w3.heap.size:=(uh.1 hx3).1;have TR:=hb2.trans (hb3.mono hz2);have HB3:=ab9 (HB1.o.trans (TR.mono hz1));have uJ:=ab9 (HM.o.grow HB3.o);have D9:o w2.heap.size=0:=Vh fun h9=>by have:=(HM.o.new _ h9).2;omega
 have HX3:=ab9 hx3;have Ji:=ab9 D9;have HP:=ab9 (fun(o3:Mark) (u:World) (I:Nat→Prop) (h0:¬I 0) (hs:Step o I w3 o3 u)=>eB (n:=n) ((hs.block (by omega) (by rw[Ji.o];exact h0)).trans HX3.o));have hla:=E5 (HD.o.grow HB3.o) uJ.o hi (by omega) 0 1 (by omega) (by have:=HL.o;omega) a1 c1 (jl n id) (by rw[hsl]) ((HR1.o.below TR ace).mono fun x hx e=>by have:=(HM.o.new x (by rw[e];exact hi)).2;have:=hx.1;omega) (by omega);rw[show((0:Nat):Int)=0 from rfl,show 1*128=128 from rfl]at hla;have HLA:=ab9 hla;clear hla hb2 hb3 hx3 TR D9 HR1 QH HSC1;unfold aW at hw3;go_wp2_with fail;rw[←hw3];clear hw3;refine HLA.o.mono ?_;rintro e w4 ⟨rfl,o4,hs4,hD4⟩;have pV:=ab9 hs4;have mo:=ab9 (uJ.o.step (fun e=>hi e.symm) hs4);have HD4:=ab9 hD4;have HSC4:=ab9 (ql hD4);obtain⟨kz,hkz⟩:∃kz:Nat,kz=(n-1)*128:=⟨_,rfl⟩;have hl3:=HL.o.2;have ek1:IntKind.i64.wrap ((n:Int)-1)=(n:Int)-1:=by rw[aah _ (by omega)]
 have ek2:IntKind.i64.wrap (128*((n:Int)-1))=(kz:Int):=by rw[aah _ (by omega)];omega
 obtain⟨zc,hzc⟩:∃zc,zc=((List.replicate kz (0:UInt8)).map bv).toArray:=⟨_,rfl⟩;have hmk:=mkZ kz (kz:Int) rfl (by omega) zc hzc;have HZ:=ab9 (zQ kz (by omega) zc hzc);have HKZ:=ab9 hkz;clear hs4 hD4 hzc hkz HLA;go_wp2_with fail;refine HSC4.o.mono ?_;rintro e _ ⟨rfl,rfl⟩;clear HSC4;go_wp2_with fail;have HZR:=HZ.o w4;obtain⟨w5,oL⟩:∃w5,w5=w4.alloc (.cells zc 5):=⟨_,rfl⟩;have hb5:Below w4.heap.size w4 w5:=by rw[oL];exact wall w4 _
 rw[←oL]at HZR⊢;clear oL hmk HZ;have hla:=E5 (HD4.o.grow hb5) (mo.o.grow hb5) hi (by omega) 1 (n-1) (by omega) (by omega) (some ⟨w4.heap.size,0,none⟩) kz (List.replicate kz 0) (by rw[aa1,HKZ.o]) (by rw[←HKZ.o];exact HZR.mono fun x hx e=>by have:=(mo.o.new x (by rw[e];exact hi)).2;omega) (by rw[HKZ.o];omega);rw[show((1:Nat):Int)=1 from rfl,←HKZ.o]at hla;have HLA:=ab9 hla;have jV:=ab9 (pV.o.then_ uJ.o (fun e=>hi e.symm) hb5);have vI:=ab9 (mo.o.grow hb5);clear hla hb5 HZR;refine HLA.o.mono ?_;rintro e w6 ⟨rfl,o6,hs6,hD6⟩;have hst:Step o (Fm i j) w3 o6 w6:=(jV.o.trans hs6).mono fun m hm=> .inl hm;have HST:=ab9 hst;have Ak:=ab9 (vI.o.step (fun e=>hi e.symm) hs6);obtain⟨b1,hb1⟩:∃b1,b1=splice (splice b (0*128) (jl n id)) (1*128) (List.replicate kz 0):=⟨_,rfl⟩;rw[←hb1]at hD6;have HD6:=ab9 (hD6.weak (c':=c+5000) (by omega));have Vx:=ab9 hb1;have h0f:¬Fm i j 0:=fun e=>by rcases e with e|e<;>omega
 have HQ:acd (n/4≤1024):=ab9 (by omega);clear hs6 hD6 hst HLA hb1 ek1 ek2;go_wp2_with fail
 go_loopw [38] (fun kv wr=>∃(k:Nat) (o':Mark),k≤2∧kv= .int .u64 (k:Int)∧Step o (Fm i j) w3 o' wr∧dP o' i wr d n (fmtK n b1 id k) False (c+5000+(k:Int)*((n/4:Nat):Int))) (fun kv _=>2-(intOf kv).toNat)
 case atStart=>exact⟨0,o6,by omega,rfl,HST.o,by have h:=HD6.o;simpa[fmtK]using h⟩
 case round=>
  obtain⟨k,o',hk,rfl,hs,hD'⟩:=hrel;have HS:=ab9 hs;have HD':=ab9 hD';have hM':=uJ.o.step h0f hs;have HM':=ab9 hM';have hidr:=(HR.o.grow' HB3.o HM.o).free h0f hs;have HIR:=ab9 hidr;clear hs hD' hM' hidr;by_cases hlt:k<2
  ·have dl:decide ((k:Int)<2)=true:=aal (by omega);have hp:∀(o9:Mark) (u:World),Step o (Fm i j) w3 o9 u→_:=fun o9 u hs=>HP.o o9 u _ h0f hs;have Uy:=ab9 hp;have HGE:=ab9 (Q0 ia 16 ic id wr.drew (HIR.o.below (Below.refl _ wr).drew ace) (by omega));clear hp;have ewk:IntKind.u64.wrap ((k:Int)+1)=((k+1:Nat):Int):=by rw[IntWalk.u64_in _ (by omega)];omega
   go_wp2_with fail;refine xG ((fun w'=>w'.cell? ⟨w2.heap.size,0,none⟩=some (.int .i64 (n:Int))∧w'.cell? ⟨w2.heap.size,1,none⟩=some (.int .i64 ((n:Int)/4))∧w'.cell? ⟨w2.heap.size,2,none⟩=some (.int .i64 (((n:Int)-1-2*((n:Int)/4))/8)))) ?_ fun hS=> ?_
   ·exact Uy.o o' _ (HS.o.then_ uJ.o h0f (Below.refl _ wr).drew)
   refine aR 0 hS ?_;refine aR 1 hS ?_;refine aR 2 hS ?_;refine aR 3 hS ?_;refine aR 4 hS ?_;refine nK 5 fun K hK=> ?_;go_simp;refine HGE.o.mono ?_;rintro e u1 ⟨a7,n7,c7,rfl,Gc,qC,iR⟩;obtain rfl:n7=32:=by have:=qC.length;simp[JF,dY]at this;omega
   have hb71:=(Below.refl _ wr).drew.trans iR;have tu:=ab9 (ah.EA HM'.o (qC.mono fun y hy=>(⟨hy.1,hy.2⟩:wr.heap.size≤y∧y<u1.heap.size)));have kr:=ab9 (HM'.o.grow hb71);have nH:=ab9 (HS.o.then_ uJ.o h0f hb71);have HD1:=ab9 (HD'.o.grow hb71);have Bl:=ab9 (st_new kr.o hj);clear qC iR hb71 HGE;go_wp2_with fail;refine mQ hK (Uy.o o' u1 nH.o) fun hS=> ?_;clear hK K;refine nK 6 fun K hK=> ?_;go_simp;refine Bl.o.mono ?_;rintro e u2 ⟨p,o2,rfl,hs2,hS2⟩;have h5z:¬Five j 0:=fun e=>by have:=e.1;omega
   have HS2:=ab9 (nH.o.trans (hs2.mono fun m hm=>(.inr hm:Fm i j m)));have HD2:=ab9 (HD1.o.step (fun e=>by have:=e.1;omega) hs2);have HR2:=ab9 (tu.o.free h5z hs2);have JO:=ab9 (Fv hS2.st hS2.marks hS2.ok (hS2.ok.sv (by omega) qo.new));have pX:=ab9 hS2.marks;clear hs2 hS2 Bl;go_wp2_with fail;refine mQ hK (Uy.o o2 u2 HS2.o) fun hS=> ?_;clear hK K;refine nK 7 fun K hK=> ?_;go_simp;refine JO.o.mono ?_;rintro e u3 ⟨a8,n8,c8,rfl,hc8,ru,gJ⟩;have xV:=ab9 (HS2.o.then_ uJ.o h0f gJ);have hms:=Iq (HD2.o.grow gJ) (pX.o.grow gJ) hi (by have:=HQ.o;have:(k:Int)*((n/4:Nat):Int)≤2*((n/4:Nat):Int):=Int.mul_le_mul_of_nonneg_right (by omega) (by omega);omega) (M6 id (k+1)) (Fz n hl3.1 id (k+1) (by omega) (by omega)) hroom a7 c7 a8 n8 c8 (HR2.o.below gJ ace) ru hc8;rw[show((M6 id (k+1)).gen%2).toNat=(k+1)%2 by show(((k+1:Nat):Int)%2).toNat=_;omega]at hms;have HMS:=ab9 hms;unfold aW n_ at HMS;rw[show(M6 id (k+1)).gen=(k:Int)+1 by show((k+1:Nat):Int)=_;omega,show(M6 id (k+1)).seq=0 from rfl,show(M6 id (k+1)).dx=0 from rfl]at HMS;clear ru gJ hms JO;go_wp2_with fail;refine mQ hK (Uy.o o2 u3 xV.o) fun hS=> ?_;clear hK K;refine aR 8 hS ?_;refine nK 9 fun K hK=> ?_;go_simp;refine HMS.o.mono ?_;rintro e u4 ⟨rfl,o4',hs4,hD4⟩;have HS4':=ab9 (xV.o.trans (hs4.mono fun m hm=>(.inl hm:Fm i j m)));have HD4':=ab9 hD4;clear hs4 hD4 HMS;go_wp2_with fail;refine mQ hK (Uy.o o4' u4 HS4'.o) fun hS=> ?_;clear hK K;refine wQ ?_;go_wp2_with fail;go_roundw
   case rel=>exact⟨k+1,o4',by omega,by go_num,HS4'.o,by have h:=HD4'.o;rw[show c+5000+((k+1:Nat):Int)*((n/4:Nat):Int)=c+5000+(k:Int)*((n/4:Nat):Int)+((n/4:Nat):Int)by rw[Int.natCast_add,Int.add_mul];omega];exact h⟩
   case measure=>simp[intOf];omega
  ·obtain rfl:k=2:=by omega
   have DT:=ab9 (LV HD'.o HM'.o hi);have dl:decide (((2:Nat):Int)<2)=false:=by decide
   go_wp2_with fail;refine DT.o.mono ?_;rintro e u1 ⟨rfl,o9,Gd,hD9⟩;have X3:=ab9 Gd;have YS:=ab9 hD9;clear Gd hD9;go_wp2_with fail;go_ret;refine⟨rfl,o9,(Step.behind HM.o HB3.o (HS.o.trans (X3.o.mono fun m hm=> .inl hm))),?_⟩;have h:=YS.o;rw[Vx.o,HKZ.o]at h;exact h.weak (by have:=HQ.o;omega)
end
theorem yL{α:Type}{L cs:List α}{off:Nat}(h:off+cs.length≤L.length)(i:Nat):(splice L off cs)[i]? =if i<off then L[i]? else if i<off+cs.length then cs[i-off]? else L[i]? :=by
 unfold splice;have e1:(L.take off).length=off:=by rw[List.length_take];omega
 rw[List.getElem?_append];split
 ·rename_i h1;rw[e1]at h1;rw[if_pos h1,aat,if_pos h1]
 ·rename_i h1;rw[e1]at h1;rw[if_neg h1,e1,List.getElem?_append];split
  ·rename_i h2;rw[if_pos (by omega)]
  ·rename_i h2;rw[if_neg (by omega),aby];congr 1;omega
theorem Ac(b:List UInt8)(f k j:Nat):(secs b f k)[j]? =if j<k*128 then b[f*128+j]? else none:=by
 unfold secs;rw[aat];split
 ·rw[aby]
 ·rfl
theorem dL{L cs:List UInt8}{off f k:Nat}(h:off+cs.length≤L.length)(ha:(f+k)*128≤off∨off+cs.length≤f*128):secs (splice L off cs) f k=secs L f k:=by
 apply List.ext_getElem?;intro j;rw[Ac,Ac];split
 ·rw[yL h];split
  ·rfl
  ·split
   ·omega
   ·rfl
 ·rfl
theorem sD{L cs:List UInt8}{f k:Nat}(h:f*128+cs.length≤L.length)(hc:cs.length=k*128):secs (splice L (f*128) cs) f k=cs:=by
 apply List.ext_getElem?;intro j;rw[Ac];split
 ·rw[yL h,if_neg (by omega),if_pos (by omega)];congr 1;omega
 ·rw[List.getElem?_eq_none (by omega)]
theorem oq(b:List UInt8)(i:Nat):rowsOf b i=secs b i 1:=by unfold rowsOf secs;rw[Nat.one_mul]
theorem lF{α:Type}{L cs:List α}{off:Nat}(h:off+cs.length≤L.length):(splice L off cs).length=L.length:=by
 unfold splice;rw[List.length_append,List.length_append,List.length_take,List.length_drop];omega
theorem TU{L:List UInt8}{off m f k:Nat}(h:off+m≤L.length)(h1:off≤f*128)(h2:(f+k)*128≤off+m):secs (splice L off (List.replicate m 0)) f k=List.replicate (k*128) 0:=by
 apply List.ext_getElem?;intro j;rw[Ac];split
 ·rename_i hj;rw[yL (by rw[aa1];exact h),if_neg (by omega),aa1,if_pos (by omega),abd,abd,if_pos (by omega),if_pos hj]
 ·rename_i hj;rw[abd,if_neg hj]
theorem wN(n k i:Nat)(hk:k<2):bE n k+n/4≤je n i:=by
 unfold bE je;rcases (show k=0∨k=1 by omega)with rfl|rfl<;>omega
structure X4(n:Nat)(b:List UInt8)(id:List UInt8):Prop where
 len:b.length=n*128
 super:rowsOf b 0=jl n id
 p0:secs b (bE n 0) (n/4)=xJ n (M6 id 2)
 p1:secs b (bE n 1) (n/4)=xJ n (M6 id 1)
 zero:∀i,i<gV n→secs b (je n i) 8=List.replicate 1024 0
theorem TV(n:Nat)(hn:64≤n)(b id:List UInt8)(hb:b.length=n*128)(hid:id.length=16)(hroom:((fV og).length:Int)≤gu n):X4 n (fmtB n b id) id:=by
 have l1:=Dk (Fz n hn id 1 (by omega) (by omega)) hn hroom;have l2:=Dk (Fz n hn id 2 (by omega) (by omega)) hn hroom;have ls:(jl n id).length=128:=tL n hid;obtain⟨c1,hc1⟩:∃c1,c1=splice b (0*128) (jl n id):=⟨_,rfl⟩;have h1:c1.length=n*128:=by rw[hc1,lF (by omega)];exact hb
 obtain⟨c2,hc2⟩:∃c2,c2=splice c1 (1*128) (List.replicate ((n-1)*128) 0):=⟨_,rfl⟩;have k2:1*128+(List.replicate ((n-1)*128) (0:UInt8)).length≤c1.length:=by rw[aa1,h1];omega
 have h2:c2.length=n*128:=by rw[hc2,lF k2];exact h1
 obtain⟨c3,hc3⟩:∃c3,c3=splice c2 (bE n 1*128) (xJ n (M6 id 1)):=⟨_,rfl⟩;have q1:bE n 1*128+n/4*128≤n*128:=by unfold bE;omega
 have q0:bE n 0*128+n/4*128≤n*128:=by unfold bE;omega
 have q01:bE n 0=1:=by unfold bE;omega
 have q11:bE n 1=1+n/4:=by unfold bE;omega
 have k3:bE n 1*128+(xJ n (M6 id 1)).length≤c2.length:=by rw[l1,h2];exact q1
 have h3:c3.length=n*128:=by rw[hc3,lF k3];exact h2
 obtain⟨c4,hc4⟩:∃c4,c4=splice c3 (bE n 0*128) (xJ n (M6 id 2)):=⟨_,rfl⟩;have k4:bE n 0*128+(xJ n (M6 id 2)).length≤c3.length:=by rw[l2,h3];exact q0
 have h4:c4.length=n*128:=by rw[hc4,lF k4];exact h3
 have hf:fmtB n b id=c4:=by rw[hc4,hc3,hc2,hc1];rfl
 rw[hf];refine⟨h4,?_,?_,?_,fun i hi=> ?_⟩
 ·rw[oq,hc4,dL k4 (by omega),hc3,dL k3 (by omega),hc2,dL k2 (by omega),hc1];exact sD (f:=0) (by omega) (by omega)
 ·rw[hc4];exact sD k4 l2
 ·rw[hc4,dL k4 (by omega),hc3];exact sD k3 l1
 ·have g1:=zZ hn hi;have g0:=wN n 0 i (by omega);have g2:=wN n 1 i (by omega);rw[hc4,dL k4 (by omega),hc3,dL k3 (by omega),hc2];exact TU (by omega) (by omega) (by omega)
def oH(M:dN)(k:Nat):List Int:=((List.range k).filter fun n=>(M.fds n).isSome).map fun n:Nat=>(n:Int)
def X5(M:dN):List Int:=oH M 8
theorem Mi{M:dN}{k:Nat}{f:M4}(h:M.fds k=some f):oH M (k+1)=oH M k++[(k:Int)]:=by
 unfold oH;rw[ab3,List.filter_append,aaz,List.filter_cons_of_pos (by rw[h];rfl)];rfl
theorem Mj{M:dN}{k:Nat}(h:M.fds k=none):oH M (k+1)=oH M k:=by
 unfold oH;rw[ab3,List.filter_append,aaz,List.filter_cons_of_neg (by rw[h];simp)];simp
theorem PI(M:dN)(k:Nat):(oH M k).length≤k:=by
 unfold oH;rw[List.length_map];have:=abK (fun n=>(M.fds n).isSome) (List.range k);rw[List.length_range]at this;exact this
section
variable{W w:World}{o:Mark}{i j k p:Nat}{M:dN}
theorem FB(h:bT o i j k w p M):Calls Tryz.prog 24 #[ptr p] w (CY w (X5 M)):=by
 obtain⟨ti,hi,hz0,hz1,hz2⟩:=aay infoInt;obtain⟨t,s,v,h1,h2,h3,h4⟩:=h.at_;obtain⟨c0,c1,c2,c3,c4⟩:=iG h1;have e3:=c3 0 (by omega);have e4:=c3 1 (by omega);have e5:=c3 2 (by omega);have e6:=c3 3 (by omega);have e7:=c3 4 (by omega);have e8:=c3 5 (by omega);have e9:=c3 6 (by omega);have e10:=c3 7 (by omega);have H4:=ab9 h4;clear h h1 h2 h3 h4 c3 c4;go_enter Tryz.func24,Tryz.ntmps24;go_wp2_with fail
 go_loopw [3,10] (fun u iv wr=>∃n:Nat,n≤8∧iv= .int .i64 n∧wr.ownsRow w.heap.size 3 1 u (oH M n).length ((oH M n).map (Value.int .i64))∧Below w.heap.size w wr) (fun _ iv _=>8-(intOf iv).toNat)
 case atStart=>exact⟨0,by omega,rfl,⟨rfl,.inl ⟨rfl,rfl⟩⟩,Below.refl _ _⟩
 case round=>
  obtain⟨n,hn,rfl,hO,hb⟩:=hrel;have hbs:=hb.size;have HO:=ab9 hO;have HB:=ab9 hb;obtain⟨a5,c5,rfl,hac5⟩:=bG hO;clear hO hb;by_cases vY:n<8
  ·have hd:decide ((n:Int)<8)=true:=by simp;omega
   have hix:=L9 v n vY wr;have hf:=H4.o n vY;have i0:(0:Int)≤n:=by omega
   cases uj:M.fds n with
   |none=>
    rw[uj]at hf;have hv:v n= .pointer none:=hf;rw[hv]at hix;have HE:=ab9 (Mj uj);clear hf hv uj;go_wp2_with fail;go_roundw
    case rel=>exact⟨n+1,by omega,by go_num,by rw[HE.o];exact HO.o,HB.o⟩
    case measure=>simp[intOf];omega
   |some f=>
    rw[uj]at hf;obtain⟨q,fa,fc,hv,_⟩:=hf;rw[hv]at hix;have HE:=ab9 (Mi uj);have hb5:Below wr.heap.size wr (wr.alloc (.cells #[.int .i64 n] 3)):=wall wr _;have YF:=ab9 (JK HO.o hb5);have dX:=ab9 hb5;have gN:=ab9 (yQ (w:=wr) (.int .i64 n) 3);have hz5:=hb5.size;obtain⟨L,hL⟩:∃L,L=(oH M n).length:=⟨_,rfl⟩;have hLn:L≤8:=by rw[hL];have:=PI M n;omega
    rw[←hL]at YF hac5;have J7:=ab9 hL;rw[←hL];clear hv uj hb5 hL;go_wp2_with (at_builtin;(refine bV (by rfl) _ _ 71 (by rfl) w.heap.size 3 ti (.int .i64 0) 8 Tryz.underlying71 hi hz0 hz1 hz2 rfl _ _ _ (by rfl) YF.o (some ⟨wr.heap.size,0,none⟩) 1 1 [.int .i64 n] (by rfl) gN.o (Xz [(n:Int)]) (by unfold maxLen;omega) (by omega) (Nat.le_trans hbs hz5) ?_);intro A' c' w6 hown6 X6 _ _);have HO6:=ab9 hown6;have HG6:=ab9 X6;clear hown6 X6;go_roundw
    case rel=>
     refine⟨n+1,by omega,by go_num,?_,?_⟩
     ·rw[HE.o,aaz,List.length_append,←J7.o];exact HO6.o
     ·exact(HB.o.trans (dX.o.mono hbs)).grown HG6.o (by omega) (bC YF.o)
    case measure=>simp[intOf];omega
  ·have hd:decide ((n:Int)<8)=false:=by simp;omega
   obtain rfl:n=8:=by omega
   go_wp2_with fail;go_ret;exact⟨a5,c5,rfl,hac5,(ah.mU HO.o).2.mono (fun b hb=>⟨by omega,hb.2⟩),HB.o⟩
def BA(x:lN):Bool:=decide (1≤x.kind∧x.kind≤17∧x.kind≠4∧x.kind≠11∧x.kind≠12∧x.kind≠17)
end
end Go.Proofs.YtmflaonodghbcaaGreatDoor
