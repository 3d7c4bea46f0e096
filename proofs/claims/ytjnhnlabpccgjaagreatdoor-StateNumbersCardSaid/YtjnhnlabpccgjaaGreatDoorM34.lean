/- The -/
import Derived.Test.YtjnhnlabpccgjaaGreatDoorM33
set_option maxRecDepth 100000
set_option maxHeartbeats 64000000
set_option linter.all false
namespace Go.Proofs.YtjnhnlabpccgjaaGreatDoor
open Go.ChangeShapes Go.WideShapes Go.ChangeAt Go.RowKit
theorem Qj{T:aL}{p q:List Nm}{v:Int}(h:ni T p q=v)(hv:v≠0):fM T p q=(v,T):=by
 unfold fM;rw[h,if_neg hv]
theorem MH{T:aL}{p q:List Nm}(h:ni T p q=0):fM T p q=(0,CK T p q):=by
 unfold fM;rw[h,if_pos rfl]
theorem gZ(w:World)(cs:Array Value)(t:TypeId)(j:Nat):(w.alloc (.cells cs t)).cell? ⟨w.heap.size,j,none⟩=cs[j]? :=by
 have:=(MapKept.heap_alloc w (.cells cs t)).1;unfold World.cell?;simp only[this];rfl
section
variable{F:Nat→Prop}{r:Nat}{T:aL}
theorem bO.no{w w':World}{v:Int}(h:jW F w r T)(hb:Below w.heap.size w w'){q:Int×aL}(hq:q=(v,T)):bO F w r q.2 (.int .i64 q.1) (.returned (.int .i64 v)) w':=by
 rw[hq];exact eB.same h hb
theorem Qk{S S':Nat→Prop}(a:Option Addr)(n c:Nat)(ls:List Nm)(a':Option Addr)(n' c':Nat)(ls':List Nm)(w:World)(h:jW F w r T)(hT:dG T)(hS:aK S w a n (ls.map strOf))(hS':aK S' w a' n' (ls'.map strOf))(hc':n'≤c')(Dh:n'≤1000000):
  Calls Tryz.prog 46 #[ptr r,.slice a n c,.slice a' n' c'] w (bO F w r (fM T ls ls').2 (.int .i64 (fM T ls ls').1)):=by
 have hE:(aX T).length≤1000000:=by have:=jw hT;omega
 have H1:=acA (Bu a n c ls a' n' c' ls' w hS hS');have H2:=acA (fun w1 (hb:Below w.heap.size w w1)=>wR a n c ls w1 (h.below hb acC) hT hE (hS.below hb acC));have H3:=acA (fun w1 (hb:Below w.heap.size w w1)=>oz a' n' c' ls' w1 (h.below hb acC) hT hE (hS'.below hb acC) hc' Dh);have H4:=acA (fun w1 (hb:Below w.heap.size w w1) id=>nu id w1 (h.below hb acC) hT.toBJ);have H5:=acA (fun w1 (hb:Below w.heap.size w w1) d nm=>lu d nm w1 (h.below hb acC) hE);have HH:=acA h;have HT:=acA hT;have HB:=acA (fun(v:Int) (hv:v≠0) (he:ni T ls ls'=v)=>Qj he hv);have HG:=acA (MH (T:=T) (p:=ls) (q:=ls'));have hr0:=h.low r h.own;unfold ni at HB HG;have Ah:=acA (gL hT ls 0 (gu hT));have HPS:=acA (je (p:=ls') hT);unfold CK at HG;generalize kE ls ls'=f0 at H1 HB HG;generalize aJ T 0 ls=lk at H2 HB HG Ah;generalize aH T ls'=pl at H3 HB HG HPS;obtain⟨id,e1⟩:=lk;obtain⟨d2,n2,e2⟩:=pl;simp only at H2 H3 HB HG Ah HPS;generalize fM T ls ls'=res at HB HG⊢;clear h hT hS hS' hE;by_cases h0:f0=0
 ·subst h0;by_cases h1:e1=0
  ·subst h1;obtain⟨y,hy⟩:=aaf.1 (Ah.o rfl);have zN:=acA (fun w1 hb=>H4.o w1 hb id);have hnd:gq T id=j_ id y:=by unfold gq;rw[hy]
   rw[hnd]at zN;unfold j_ at zN;have hky:dL T id=y.kind:=dM hy;have hly:tO T id=y.links:=by unfold tO;rw[hy]
   rw[hky,hly]at HB;rw[hky,hly]at HG;have HY:=acA hy;have hlk:=(HT.o.each id y hy).links;clear hnd hky hly hy H4;by_cases h2:y.kind=2
   ·have hk1:(y.kind==2)=true:=by simpa using h2
    have HQ:=acA (HB.o 22 (by omega) (by rw[if_neg (by simp),if_neg (by simp),if_pos h2]));clear h2;go_enter acj,ab8;go_wp2_with fail;refine H1.o.mono ?_;rintro e w1 ⟨rfl,hb1⟩;have HB1:=acA hb1;clear hb1;go_wp2_with fail;refine(H2.o w1 HB1.o).mono ?_;rintro e w2 ⟨rfl,hb2⟩;have HB2:=acA (HB1.o.trans (hb2.mono HB1.o.size));clear hb2;go_wp2_with fail;refine(zN.o w2 HB2.o).mono ?_;rintro e w3 ⟨rfl,hb3⟩;have HB3:=acA (HB2.o.trans (hb3.mono HB2.o.size));have hz3:=HB3.o.size;clear hb3;go_wp2_with fail;go_ret;exact bO.no HH.o (HB3.o.trans ((wall w3 _).mono HB3.o.size)) HQ.o
   ·have hk1:(y.kind==2)=false:=by simpa using h2
    by_cases h3:e2=0
    ·subst h3;obtain⟨x,hx,hxk,hxm⟩:=HPS.o rfl;have hnm:bJ T d2=x.names:=fU hx;rw[hnm]at HB;rw[hnm]at HG;have yw:=acA (fun w1 hb=>H5.o w1 hb d2 n2);cases hn:aj n2 x.names with
     |some j=>
      obtain⟨m,hm1,hm2⟩:=sW HT.o.toBJ hx hn;rw[hm1]at yw;have m0:¬(m:Int)<0:=by omega
      have m1:(0:Int)≤m:=by omega
      have HQ:=acA (HB.o 21 (by omega) (by rw[if_neg (by simp),if_neg (by simp),if_neg h2,if_neg (by simp),hn];rfl));clear h2 hn hx hxk hxm hnm hm1 hm2;go_enter acj,ab8;go_wp2_with fail;refine H1.o.mono ?_;rintro e w1 ⟨rfl,hb1⟩;have HB1:=acA hb1;clear hb1;go_wp2_with fail;refine(H2.o w1 HB1.o).mono ?_;rintro e w2 ⟨rfl,hb2⟩;have HB2:=acA (HB1.o.trans (hb2.mono HB1.o.size));clear hb2;go_wp2_with fail;refine(zN.o w2 HB2.o).mono ?_;rintro e w3 ⟨rfl,hb3⟩;have HB3:=acA (HB2.o.trans (hb3.mono HB2.o.size));have hz3:=HB3.o.size;clear hb3;go_wp2_with fail;refine(H3.o _ (HB3.o.trans ((wall w3 _).mono HB3.o.size))).mono ?_;rintro e w4 ⟨rfl,hb4⟩;have dY:=acA ((HB3.o.trans ((wall w3 _).mono HB3.o.size)).trans (hb4.mono (by simp;omega)));have q4:w4.cell? ⟨w3.heap.size,2,none⟩=some (.int .i64 y.links):=by rw[hb4.cell (p:=⟨w3.heap.size,2,none⟩) (by simp)];exact gZ w3 _ _ 2
      have Bv:w3.heap.size<w4.heap.size:=by have:=hb4.size;simp at this;omega
      clear hb4;go_wp2_with fail;refine(yw.o w4 dY.o).mono ?_;rintro e w5 ⟨rfl,rfl⟩;go_wp2_with fail;go_ret;exact bO.no HH.o dY.o HQ.o
     |none=>
      rw[vP HT.o.sorted hx hn]at yw;by_cases h4:64≤y.links
      ·have HQ:=acA (HB.o 4 (by omega) (by rw[if_neg (by simp),if_neg (by simp),if_neg h2,if_neg (by simp),hn,if_neg (by simp),if_pos h4]));have hd4:decide ((64:Int)≤y.links)=true:=by simpa using h4
       clear h2 hn hx hxk hxm hnm;go_enter acj,ab8;go_wp2_with fail;refine H1.o.mono ?_;rintro e w1 ⟨rfl,hb1⟩;have HB1:=acA hb1;clear hb1;go_wp2_with fail;refine(H2.o w1 HB1.o).mono ?_;rintro e w2 ⟨rfl,hb2⟩;have HB2:=acA (HB1.o.trans (hb2.mono HB1.o.size));clear hb2;go_wp2_with fail;refine(zN.o w2 HB2.o).mono ?_;rintro e w3 ⟨rfl,hb3⟩;have HB3:=acA (HB2.o.trans (hb3.mono HB2.o.size));have hz3:=HB3.o.size;clear hb3;go_wp2_with fail;refine(H3.o _ (HB3.o.trans ((wall w3 _).mono HB3.o.size))).mono ?_;rintro e w4 ⟨rfl,hb4⟩;have dY:=acA ((HB3.o.trans ((wall w3 _).mono HB3.o.size)).trans (hb4.mono (by simp;omega)));have q4:w4.cell? ⟨w3.heap.size,2,none⟩=some (.int .i64 y.links):=by rw[hb4.cell (p:=⟨w3.heap.size,2,none⟩) (by simp)];exact gZ w3 _ _ 2
       have Bv:w3.heap.size<w4.heap.size:=by have:=hb4.size;simp at this;omega
       clear hb4;go_wp2_with fail;refine(yw.o w4 dY.o).mono ?_;rintro e w5 ⟨rfl,rfl⟩;go_wp2_with fail;go_ret;exact bO.no HH.o dY.o HQ.o
      ·have HQ:=acA (HG.o (by rw[if_neg (by simp),if_neg (by simp),if_neg h2,if_neg (by simp),hn,if_neg (by simp),if_neg h4]));have hd4:decide ((64:Int)≤y.links)=false:=by simpa using h4
       have hid:id≠d2:=fun e=>by have:=HY.o;rw[e,hx]at this;cases this;exact h2 hxk
       have HL:=acA (vQ.of HT.o);have HAD:=acA (fun w4 (hb:Below w.heap.size w w4)=>Ct d2 n2 id x w4 (HH.o.below hb acC) HL.o hx hn);have Pm:acB (aj id (setName T d2 n2 id)=some y):=by
        show aj id (setName T d2 n2 id)=some y;unfold setName;rw[aW,if_neg hid];exact HY.o
       have zm:acB (vQ (setName T d2 n2 id)):=HL.o.put hx hn (jw HT.o) id;clear h2 hn hx hxk hxm hnm h4 hid;go_enter acj,ab8;go_wp2_with fail;refine H1.o.mono ?_;rintro e w1 ⟨rfl,hb1⟩;have HB1:=acA hb1;clear hb1;go_wp2_with fail;refine(H2.o w1 HB1.o).mono ?_;rintro e w2 ⟨rfl,hb2⟩;have HB2:=acA (HB1.o.trans (hb2.mono HB1.o.size));clear hb2;go_wp2_with fail;refine(zN.o w2 HB2.o).mono ?_;rintro e w3 ⟨rfl,hb3⟩;have HB3:=acA (HB2.o.trans (hb3.mono HB2.o.size));have hz3:=HB3.o.size;clear hb3;go_wp2_with fail;refine(H3.o _ (HB3.o.trans ((wall w3 _).mono HB3.o.size))).mono ?_;rintro e w4 ⟨rfl,hb4⟩;have dY:=acA ((HB3.o.trans ((wall w3 _).mono HB3.o.size)).trans (hb4.mono (by simp;omega)));have q4:w4.cell? ⟨w3.heap.size,2,none⟩=some (.int .i64 y.links):=by rw[hb4.cell (p:=⟨w3.heap.size,2,none⟩) (by simp)];exact gZ w3 _ _ 2
       have Bv:w3.heap.size<w4.heap.size:=by have:=hb4.size;simp at this;omega
       clear hb4;go_wp2_with fail;refine(yw.o w4 dY.o).mono ?_;rintro e w5 ⟨rfl,rfl⟩;go_wp2_with fail;refine(HAD.o w4 dY.o).mono ?_;rintro e w5 RF;obtain⟨rfl,yU,EA⟩:=RF;have Dt:=acA (wT id 1 y w5 EA zm.o Pm.o (by omega) hlk);have zK:acB (bO F w4 r (setName T d2 n2 id) (.tuple #[]) (.returned (.tuple #[])) w5):=⟨rfl,yU,EA⟩;clear yU EA;go_wp2_with fail;refine Dt.o.mono ?_;rintro e w6 K7;have BM:=acA K7;obtain rfl:=K7.1;clear K7;go_wp2_with fail;go_ret;rw[HQ.o];exact(eB.behind HH.o.low dY.o (zK.o.trans (HH.o.below dY.o acC).low BM.o)).val _
    ·have HQ:=acA (HB.o e2 h3 (by rw[if_neg (by simp),if_neg (by simp),if_neg h2,if_pos h3]));have hne:(e2==0)=false:=by simpa using h3
     have hne2:(e2 !=0)=true:=by simpa using h3
     clear h2 h3;go_enter acj,ab8;go_wp2_with fail;refine H1.o.mono ?_;rintro e w1 ⟨rfl,hb1⟩;have HB1:=acA hb1;clear hb1;go_wp2_with fail;refine(H2.o w1 HB1.o).mono ?_;rintro e w2 ⟨rfl,hb2⟩;have HB2:=acA (HB1.o.trans (hb2.mono HB1.o.size));clear hb2;go_wp2_with fail;refine(zN.o w2 HB2.o).mono ?_;rintro e w3 ⟨rfl,hb3⟩;have HB3:=acA (HB2.o.trans (hb3.mono HB2.o.size));have hz3:=HB3.o.size;clear hb3;go_wp2_with fail;refine(H3.o _ (HB3.o.trans ((wall w3 _).mono HB3.o.size))).mono ?_;rintro e w4 ⟨rfl,hb4⟩;have dY:=acA ((HB3.o.trans ((wall w3 _).mono HB3.o.size)).trans (hb4.mono (by simp;omega)));have q4:w4.cell? ⟨w3.heap.size,2,none⟩=some (.int .i64 y.links):=by rw[hb4.cell (p:=⟨w3.heap.size,2,none⟩) (by simp)];exact gZ w3 _ _ 2
     have Bv:w3.heap.size<w4.heap.size:=by have:=hb4.size;simp at this;omega
     clear hb4;go_wp2_with fail;go_ret;exact bO.no HH.o dY.o HQ.o
  ·have HQ:=acA (HB.o e1 h1 (by rw[if_neg (by simp),if_pos h1]));have hne:(e1==0)=false:=by simpa using h1
   have hne2:(e1 !=0)=true:=by simpa using h1
   clear h1;go_enter acj,ab8;go_wp2_with fail;refine H1.o.mono ?_;rintro e w1 ⟨rfl,hb1⟩;have HB1:=acA hb1;clear hb1;go_wp2_with fail;refine(H2.o w1 HB1.o).mono ?_;rintro e w2 ⟨rfl,hb2⟩;have HB2:=acA (HB1.o.trans (hb2.mono HB1.o.size));clear hb2;go_wp2_with fail;go_ret;exact bO.no HH.o HB2.o HQ.o
 ·have HQ:=acA (HB.o f0 h0 (if_pos h0));have hne:(f0==0)=false:=by simpa using h0
  have hne2:(f0 !=0)=true:=by simpa using h0
  clear h0;go_enter acj,ab8;go_wp2_with fail;refine H1.o.mono ?_;rintro e w1 ⟨rfl,hb1⟩;have HB1:=acA hb1;clear hb1;go_wp2_with fail;go_ret;exact bO.no HH.o HB1.o HQ.o
end
theorem Hq{id:Int}:∀{T:aL} {x:bP},aT lI T→aj id T=some x→(aX T).filter (fun e=>decide (e.1=id))=x.names.map fun e=>(id,e.1,e.2)
 |[],x,_,hx=>by cases hx
 |y::r,x,hs,hx=>by
  obtain⟨h1,h2⟩:=aaw.1 hs;rw[iQ]at hx;rw[fA,aaZ];by_cases hy:y.1=id
  ·rw[if_pos hy]at hx;cases hx;have e1:(mZ y).filter (fun e=>decide (e.1=id))=mZ y:=by
    rw[abe];intro e he;obtain⟨z,_,rfl⟩:=List.mem_map.1 he;simp[hy]
   have e2:(aX r).filter (fun e=>decide (e.1=id))=[]:=by
    rw[List.filter_eq_nil_iff];intro e he;obtain⟨q,hq,hk,_⟩:=Ho he;have:=h1 q hq;simp only[aal]at this;simp only[aal];omega
   rw[e1,e2,aaE];unfold mZ;rw[hy]
  ·rw[if_neg hy]at hx;have e1:(mZ y).filter (fun e=>decide (e.1=id))=[]:=by
    rw[List.filter_eq_nil_iff];intro e he;obtain⟨z,_,rfl⟩:=List.mem_map.1 he;simp[hy]
   rw[e1,List.nil_append,Hq h2 hx]
def Kg(E:List kJ)(id:Int)(k:Nat):List Nm:=((E.take k).filter fun e=>decide (e.1=id)).map fun e=>e.2.1
def XQ(E:List kJ)(id:Int)(k:Nat):List Value:=(Kg E id k).map fun n=> .string (strOf n)
theorem XR{E:List kJ}{id:Int}{k:Nat}{e:kJ}(hx:E[k]? =some e)(he:e.1=id):Kg E id (k+1)=Kg E id k++[e.2.1]:=by
 obtain⟨hk,h⟩:=aae.1 hx;unfold Kg;rw[aah hk,aaZ,h,List.map_append];simp[he]
theorem lnk_no{E:List kJ}{id:Int}{k:Nat}{e:kJ}(hx:E[k]? =some e)(he:e.1≠id):Kg E id (k+1)=Kg E id k:=by
 obtain⟨hk,h⟩:=aae.1 hx;unfold Kg;rw[aah hk,aaZ,h,List.map_append];simp[he]
theorem XT(E:List kJ)(id:Int)(k:Nat):(Kg E id k).length≤k:=by
 unfold Kg;rw[List.length_map];exact Nat.le_trans (aaY _ _) (List.length_take_le _ _)
theorem XU:(Tryz.prog.info? 9).map (fun i=>(i.zero,i.size,i.bytes))=some (some (.string ByteArray.empty),1,16):=by kernel_rfl
def zC(w0:World)(B:Nat)(E:List kJ)(id:Int)(k:Nat)(v:Value)(wr:World):Prop:=
 wr.ownsRow B 9 1 v (Kg E id k).length (XQ E id k)∧Below B w0 wr∧B≤wr.heap.size
theorem Ql{w0 wr w3:World}{B:Nat}{E:List kJ}{id:Int}{k m c:Nat}{nm:Nm}{v:Value}{A:Option Addr}{o:Obj}(hp:Kg E id (k+1)=Kg E id k++[nm])(hm:m=(Kg E id k).length)(ho3:w3.ownsRow B 9 1 (.slice A (m+1) c) (m+1) (XQ E id k++[.string (strOf nm)]))(ho:wr.ownsRow B 9 1 v m (XQ E id k))(hg:(wr.alloc o).grownBy w3 v.ownBlock)(hB:Below B w0 wr)(UA:B≤wr.heap.size):zC w0 B E id (k+1) (.slice A (m+1) c) w3:=by
 have hs:=hg.size;have e1:(Kg E id (k+1)).length=m+1:=by rw[hp,List.length_append,hm];rfl
 have e2:XQ E id (k+1)=XQ E id k++[.string (strOf nm)]:=by unfold XQ;rw[hp,List.map_append];rfl
 unfold zC;rw[e1,e2];refine⟨ho3,(hB.alloc UA o).trans ⟨hg.os,hg.tape,hg.output,hg.size,fun b hb=>hg.block b (by simp;omega) (fun e=>by have:=bA ho b e.symm;omega)⟩,?_⟩;rw[aad]at hs;omega
theorem UC{w w2 wr:World}{E:List kJ}{id:Int}{k:Nat}{v:Value}{L:List Nm}(h:zC w2 w2.heap.size E id k v wr)(hL:Kg E id k=L)(hb:Below w.heap.size w w2)(hs:∀l∈L,l.length≤maxLen):za w (L,0) (.returned (.tuple #[v,.int .i64 0])) wr:=by
 obtain⟨ho,hB,UA⟩:=h;have hsz:=hb.size;unfold XQ at ho;rw[hL]at ho;obtain⟨a,c,rfl,hlc⟩:=dI ho;obtain⟨_,hrow⟩:=ah.pJ ho;refine⟨a,c,rfl,hlc,⟨?_,fun s hs'=> ?_⟩,hb.trans (hB.mono hsz)⟩
 ·rw[List.map_map];exact hrow.mono fun b hb=>⟨by omega,hb.2⟩
 ·obtain⟨l,hl,rfl⟩:=List.mem_map.1 hs';rw[fu];exact hs l hl
section
variable{F:Nat→Prop}{r:Nat}{T:aL}
theorem F4(id:Int)(w:World)(h:jW F w r T)(hT:dG T):Calls Tryz.prog 105 #[ptr r,.int .i64 id] w (za w (mE T id)):=by
 have hE:=jw hT;have H4:=acA (nu id w h hT.toBJ);have hr0:=h.low r h.own;unfold gq at H4;unfold mE;cases hx:aj id T with
 |none=>
  rw[hx]at H4;clear h hx hT;go_enter Tryz.func105,Tryz.ntmps105;go_wp2_with fail;refine H4.o.mono ?_;rintro e w1 ⟨rfl,hb1⟩;go_wp2_with fail
  go_ret2
  exact⟨none,0,rfl,Nat.le_refl _,⟨ah.nil _ _ _,by simp⟩,hb1.trans ((wall w1 _).mono hb1.size)⟩
 |some x=>
  rw[hx]at H4;simp only at H4;unfold j_ at H4;by_cases hk:x.kind=2
  ·rw[hk]at H4;simp only[if_pos hk];obtain⟨i0,hi,hz,hz1,hz2⟩:=aap XU;have HI:=acA (And.intro hi (And.intro hz (And.intro hz1 hz2)));have HN:=acA (Hq hT.sorted hx);have HH:=acA (fun w1 (hb:Below w.heap.size w w1)=>(h.below hb acC).ent);have hgood:=acA ((hT.each id x hx).good);obtain⟨n,hn⟩:∃n,n=(aX T).length:=⟨_,rfl⟩;generalize aX T=E at*;rw[←hn]at hE;have HL:=acA hn;clear h hx hT hk hi hz hz1 hz2 hn;go_enter Tryz.func105,Tryz.ntmps105;go_wp2_with fail;refine H4.o.mono ?_;rintro e w1 ⟨rfl,hb1⟩;have HB1:=acA (hb1.trans ((wall w1 (.cells #[.int .i64 id,.int .i64 2,.int .i64 x.links,.int .i64 x.b.length,.int .u64 x.aA,.bool x.closed] 39)).mono hb1.size));have hs1:=hb1.size;clear hb1;go_wp2_with fail;generalize (w1.alloc (.cells #[.int .i64 id,.int .i64 2,.int .i64 x.links,.int .i64 x.b.length,.int .u64 x.aA,.bool x.closed] 39))=w2 at*;obtain⟨aE,cE,q2,q3,hrow,-⟩:=HH.o w2 HB1.o;rw[←HL.o]at q2 q3 hrow;have HR:=acA hrow;have hs2:=HB1.o.size;have hr2:r<w2.heap.size:=by omega
   clear hrow HH
   go_loopw [8,9] (fun v i wr=>∃k:Nat,k≤n∧i= .int .i64 k∧zC w2 w2.heap.size E id k v wr) (fun _ i _=>n-(intOf i).toNat)
   case atStart=>exact⟨0,by omega,rfl,⟨rfl,.inl ⟨rfl,rfl⟩⟩,Below.refl _ _,Nat.le_refl _⟩
   case round=>
    obtain⟨k,hk,rfl,hown,hB,UA⟩:=hrel;have HO:=acA hown;have HB:=acA hB;have c2:wr.cell? ⟨r,2,none⟩=some (.slice aE n cE):=by rw[hB.cell (p:=⟨r,2,none⟩) hr2];exact q2
    have hrr:r<wr.heap.size:=by omega
    have hll:=XT E id k;clear hB hown;by_cases hlt:k<n
    ·have hx:E[k]? =some (E[k]'(by have:=HL.o;omega)):=List.getElem?_eq_getElem _;obtain⟨q,hq⟩:∃q,q=E[k]'(by have:=HL.o;omega):=⟨_,rfl⟩;rw[←hq]at hx;have HX:=acA hx;obtain⟨b,off,rfl,hF,hb,hi,hc⟩:=(HR.o.below HB.o acC).wide kg HL.o.symm hx (by omega);have c0:wr.cell? ⟨b,off+k*3,none⟩=some (.int .i64 q.1):=hc 0 (by omega);have c1:wr.cell? ⟨b,off+k*3+1,none⟩=some (.string (strOf q.2.1)):=hc 1 (by omega);clear hx hq hc;have i0:(0:Int)≤k:=by omega
     have i1:(k:Int)<n:=by omega
     by_cases hp:q.1=id
     ·have hpp:(q.1==id)=true:=by simpa using hp
      have HP:=acA (XR HX.o hp);obtain⟨m,hm⟩:∃m,m=(Kg E id k).length:=⟨_,rfl⟩;have HM:=acA hm;rw[←hm]at HO hll;clear hp hm;go_wp2_with ((at_builtin;refine aS rfl _ _ 26 rfl w2.heap.size 9 _ (.string ByteArray.empty) 16 Tryz.underlying26 HI.o.1 HI.o.2.1 HI.o.2.2.1 HI.o.2.2.2 rfl _ m (XQ E id k) rfl (HO.o.alloc _) (some ⟨wr.heap.size,0,none⟩) 1 1 [.string (strOf q.2.1)] rfl (rO _ _) (by simp[Value.oneCell']) (by unfold maxLen;omega) (by omega) (by simp;omega) ?_;intro A1 k1 w3 hown3 hgrow3 _ _));have HG:=acA hgrow3;have GY:=acA hown3;clear hgrow3 hown3;go_wp2;go_roundw
      case rel=>exact⟨k+1,by omega,by go_num,Ql HP.o HM.o GY.o HO.o HG.o HB.o UA⟩
      case measure=>simp[intOf];omega
     ·have hpp:(q.1==id)=false:=by simpa using hp
      have HP:=acA (lnk_no HX.o hp);clear hp;go_wp2;go_roundw
      case rel=>exact⟨k+1,by omega,by go_num,by unfold zC XQ;rw[HP.o];exact⟨HO.o,HB.o,UA⟩⟩
      case measure=>simp[intOf];omega
    ·go_wp2
     go_ret2
     have hkn:k=n:=by omega
     refine UC ⟨HO.o,HB.o,UA⟩ ?_ HB1.o ?_
     ·unfold Kg;rw[List.take_of_length_le (by have:=HL.o;omega),HN.o,List.map_map];rfl
     ·intro l hl;obtain⟨e,he,rfl⟩:=List.mem_map.1 hl;have:=sH _ (hgood.o e he);unfold maxLen;omega
  ·have e1:(x.kind==2)=false:=by simpa using hk
   have e2:(x.kind !=2)=true:=by simpa using hk
   simp only[if_neg hk];clear h hx hT hk;go_enter Tryz.func105,Tryz.ntmps105;go_wp2_with fail;refine H4.o.mono ?_;rintro e w1 ⟨rfl,hb1⟩;go_wp2_with fail
   go_ret2
   exact⟨none,0,rfl,Nat.le_refl _,⟨ah.nil _ _ _,by simp⟩,hb1.trans ((wall w1 _).mono hb1.size)⟩
end
theorem Keeps.cell_{r b:Nat}{w w':World}(h:Keeps (fun x=>x=r) w w')(hb:b<w.heap.size)(hn:b≠r)(j:Nat):w'.cell? ⟨b,j,none⟩=w.cell? ⟨b,j,none⟩:=Pe (w:=w) (w':=w') (a:=⟨b,j,none⟩) (h.block b hb hn)
theorem DZ{T:aL}{p:List Nm}(h:(aQ T p).2=0):aQ T p=aJ T 0 p:=by
 unfold aQ at h⊢;by_cases h1:bg p≠0
 ·rw[if_pos h1]at h;exact absurd h h1
 ·rw[if_neg h1]
section
variable{F:Nat→Prop}{r:Nat}{T:aL}
theorem Kh{S:Nat→Prop}(a:Option Addr)(n c:Nat)(ls:List Nm)(w:World)(h:jW F w r T)(hT:dG T)(hS:aK S w a n (ls.map strOf))(hc:n≤c)(lF:n≤1000000):
  Calls Tryz.prog 121 #[ptr r,.slice a n c] w (bO F w r (bC T ls).2 (.int .i64 (bC T ls).1)):=by
 have hE:(aX T).length≤1000000:=by have:=jw hT;omega
 have H1:=acA (AB a n c ls w h hT hE hS);have H3:=acA (fun w1 (hb:Below w.heap.size w w1)=>oz a n c ls w1 (h.below hb acC) hT hE (hS.below hb acC) hc lF);have H4:=acA (fun w1 (hb:Below w.heap.size w w1) id=>nu id w1 (h.below hb acC) hT.toBJ);have H5:=acA (fun w1 (hb:Below w.heap.size w w1) d nm=>lu d nm w1 (h.below hb acC) hE);have HH:=acA h;have HT:=acA hT;have hr0:=h.low r h.own;by_cases h1:(aQ T ls).2=0
 ·have D5:=DZ h1;rw[D5]at h1 H1;have hl2:aJ T 0 ls=((aJ T 0 ls).1,0):=aaO rfl h1;obtain⟨y,hy⟩:=aaf.1 (gL hT ls 0 (gu hT) h1);have hue:jL T ls=if y.kind=2 then 22 else 0:=by
   unfold jL;rw[D5,if_neg (by rw[h1];simp),dM hy]
  obtain⟨id,hid⟩:∃id,id=(aJ T 0 ls).1:=⟨_,rfl⟩;rw[←hid]at hl2 hy;rw[hl2]at H1;simp only at H1;have zN:=acA (fun w1 hb=>H4.o w1 hb id);have hnd:gq T id=j_ id y:=by unfold gq;rw[hy]
  rw[hnd]at zN;unfold j_ at zN;have hlk:=(hT.each id y hy).links;by_cases h2:y.kind=2
  ·have hk1:(y.kind==2)=true:=by simpa using h2
   have HQ:acB (bC T ls=(22,T)):=by
    show bC T ls=(22,T);unfold bC;rw[hue,if_pos h2];rfl
   clear h hT hS hE H4 D5 h1 hl2 hue hid hnd hy h2;go_enter Tryz.func121,Tryz.ntmps121;go_wp2_with fail;refine H1.o.mono ?_;rintro e w1 ⟨rfl,hb1⟩;have HB1:=acA hb1;clear hb1;go_wp2_with fail;refine(zN.o w1 HB1.o).mono ?_;rintro e w3 ⟨rfl,hb3⟩;have HB3:=acA (HB1.o.trans (hb3.mono HB1.o.size));have hz3:=HB3.o.size;clear hb3;go_wp2_with fail;go_ret;exact bO.no HH.o (HB3.o.trans ((wall w3 _).mono HB3.o.size)) HQ.o
  ·have hk1:(y.kind==2)=false:=by simpa using h2
   have hls:ls≠[]:=fun e=>by
    rw[e]at hl2;simp only[aJ,Prod.mk.injEq,aaI]at hl2;obtain⟨z,hz,hzk⟩:=mR hT.root;rw[←hl2,hz]at hy;cases hy;exact h2 hzk
   obtain⟨d,x,n1,hp1,hp2,hx,hxk,hxn,hm,-⟩:=dx hl2 hls;rw[hp1]at H3;simp only at H3;have UD:id≠d:=fun e=>by rw[e,hx]at hy;cases hy;exact h2 hxk
   have zm:=acA ((vQ.of hT).cut d n1);obtain⟨k,hk,-⟩:=zB (vQ.of hT) hx hxn;have yw:=acA (fun w1 hb=>H5.o w1 hb d n1);rw[hk]at yw;have XV:acB (∀w4,Below w.heap.size w w4→Calls Tryz.prog 115 #[ptr r,.int .i64 k] w4 (bO F w4 r (aG T d n1) (.tuple #[]))):=fun w4 hb=>by
    obtain⟨k',hk',hc'⟩:=Cr d n1 id x w4 (h.below hb acC) (vQ.of hT) hx hxn;rw[hk]at hk';have:k=k':=by omega
    rw[this];exact hc'
   have Pm:acB (aj id (aG T d n1)=some y):=by
    show aj id (aG T d n1)=some y;unfold aG;rw[aW,if_neg UD];exact hy
   have HY2:acB (aj id (bq id (fun x:bP=>{x with links:=x.links+ -1}) (aG T d n1))=some {y with links:=y.links+ -1}):=by
    show aj id (bq id (fun x:bP=>{x with links:=x.links+ -1}) (aG T d n1))=some {y with links:=y.links+ -1};rw[aW,if_pos rfl,Pm.o];rfl
   have HL2:acB (vQ (bq id (fun x:bP=>{x with links:=x.links+ -1}) (aG T d n1))):=zm.o.bq id (fun _=>by exact rfl);have hnil:y.names=[]:=(hT.each id y hy).file ((hT.each id y hy).kind.resolve_right h2);have HQ:acB (bC T ls=(0,if y.links=1∧y.closed=true then bS id (bq id (fun x:bP=>{x with links:=x.links+ -1}) (aG T d n1))else bq id (fun x:bP=>{x with links:=x.links+ -1}) (aG T d n1))):=by
    show bC T ls=_;unfold bC;rw[hue,if_neg h2];refine aaO rfl ?_;show sD T ls=_;unfold sD iR;rw[hp1,←hid];have e0:(fun x:bP=>{x with links:=x.links-1})=fun x:bP=>{x with links:=x.links+ -1}:=rfl;simp only[e0];rw[HY2.o];simp only;by_cases hq:y.links=1∧y.closed=true
    ·rw[if_pos hq,if_pos ⟨by omega,hq.2⟩]
    ·rw[if_neg hq,if_neg (fun h=>hq ⟨by omega,h.2⟩)]
   clear h hT hS hE H4 H5 D5 h1 hl2 hue hid hnd hy h2 hls hp1 hp2 hx hxk hxn hm hk UD;by_cases h3:y.links=1
   ·have e1:(y.links==1)=true:=by simpa using h3
    cases h4:y.closed with
    |true=>
     rw[if_pos ⟨h3,h4⟩]at HQ;rw[h4]at zN;have hcl:=acA h4;clear h3 h4;go_enter Tryz.func121,Tryz.ntmps121;go_wp2_with fail;refine H1.o.mono ?_;rintro e w1 ⟨rfl,hb1⟩;have HB1:=acA hb1;clear hb1;go_wp2_with fail;refine(zN.o w1 HB1.o).mono ?_;rintro e w3 ⟨rfl,hb3⟩;have HB3:=acA (HB1.o.trans (hb3.mono HB1.o.size));have hz3:=HB3.o.size;clear hb3;go_wp2_with fail;refine(H3.o _ (HB3.o.trans ((wall w3 _).mono HB3.o.size))).mono ?_;rintro e w4 ⟨rfl,hb4⟩;have dY:=acA ((HB3.o.trans ((wall w3 _).mono HB3.o.size)).trans (hb4.mono (by simp;omega)));have q4:w4.cell? ⟨w3.heap.size,2,none⟩=some (.int .i64 y.links):=by rw[hb4.cell (p:=⟨w3.heap.size,2,none⟩) (by simp)];exact gZ w3 _ _ 2
     have q5:w4.cell? ⟨w3.heap.size,5,none⟩=some (.bool true):=by rw[hb4.cell (p:=⟨w3.heap.size,5,none⟩) (by simp)];exact(gZ w3 _ _ 5)
     have Bv:w3.heap.size<w4.heap.size:=by have:=hb4.size;simp at this;omega
     obtain⟨qb,Pb⟩:∃qb,qb=w3.heap.size:=⟨_,rfl⟩;have hqr:qb≠r:=by omega
     rw[←Pb]at q4 q5 Bv⊢;have HZ:=acA Pb;clear hb4 Pb hz3;go_wp2_with fail;refine(yw.o w4 dY.o).mono ?_;rintro e w5 ⟨rfl,rfl⟩;go_wp2_with fail;refine(XV.o w4 dY.o).mono ?_;rintro e w5 RF;obtain⟨rfl,yU,EA⟩:=RF;have Zp:w5.cell? ⟨qb,2,none⟩=some (.int .i64 y.links):=(yU.cell_ Bv hqr 2).trans q4;have Zq:w5.cell? ⟨qb,5,none⟩=some (.bool true):=(yU.cell_ Bv hqr 5).trans q5;have Ci:qb<w5.heap.size:=by have:=yU.size;omega
     have Dt:=acA (wT id (-1) y w5 EA zm.o Pm.o (by omega) hlk);have zK:acB (bO F w4 r (aG T d n1) (.tuple #[]) (.returned (.tuple #[])) w5):=⟨rfl,yU,EA⟩;clear yU EA q4 q5;go_wp2_with fail;refine Dt.o.mono ?_;rintro e w6 K7;obtain⟨rfl,FK,Rx⟩:=K7;have q4:w6.cell? ⟨qb,2,none⟩=some (.int .i64 y.links):=(FK.cell_ Ci hqr 2).trans Zp;have q5:w6.cell? ⟨qb,5,none⟩=some (.bool true):=(FK.cell_ Ci hqr 5).trans Zq;have hz6:qb<w6.heap.size:=by have:=FK.size;omega
     have Wm:=acA (vR id _ w6 Rx HL2.o.sorted HL2.o.len HY2.o hnil);have BM:acB (bO (Grow F w4 w5) w5 r (bq id (fun x=>{x with links:=x.links+ -1}) (aG T d n1)) (.tuple #[]) (.returned (.tuple #[])) w6):=⟨rfl,FK,Rx⟩;clear FK Rx Zp Zq;go_wp2_with fail;refine Wm.o.mono ?_;rintro e w7 ht7;have Pj:=acA ht7;obtain rfl:=ht7.1;clear ht7;go_wp2_with fail;go_ret;rw[HQ.o];have ht56:=zK.o.trans (HH.o.below dY.o acC).low BM.o;exact(eB.behind HH.o.low dY.o (zK.o.trans (HH.o.below dY.o acC).low (BM.o.trans zK.o.2.2.low Pj.o))).val _
    |false=>
     rw[if_neg (by rw[h4];simp)]at HQ;rw[h4]at zN;clear h3 h4;go_enter Tryz.func121,Tryz.ntmps121;go_wp2_with fail;refine H1.o.mono ?_;rintro e w1 ⟨rfl,hb1⟩;have HB1:=acA hb1;clear hb1;go_wp2_with fail;refine(zN.o w1 HB1.o).mono ?_;rintro e w3 ⟨rfl,hb3⟩;have HB3:=acA (HB1.o.trans (hb3.mono HB1.o.size));have hz3:=HB3.o.size;clear hb3;go_wp2_with fail;refine(H3.o _ (HB3.o.trans ((wall w3 _).mono HB3.o.size))).mono ?_;rintro e w4 ⟨rfl,hb4⟩;have dY:=acA ((HB3.o.trans ((wall w3 _).mono HB3.o.size)).trans (hb4.mono (by simp;omega)));have q4:w4.cell? ⟨w3.heap.size,2,none⟩=some (.int .i64 y.links):=by rw[hb4.cell (p:=⟨w3.heap.size,2,none⟩) (by simp)];exact gZ w3 _ _ 2
     have q5:w4.cell? ⟨w3.heap.size,5,none⟩=some (.bool false):=by rw[hb4.cell (p:=⟨w3.heap.size,5,none⟩) (by simp)];exact gZ w3 _ _ 5
     have Bv:w3.heap.size<w4.heap.size:=by have:=hb4.size;simp at this;omega
     obtain⟨qb,Pb⟩:∃qb,qb=w3.heap.size:=⟨_,rfl⟩;have hqr:qb≠r:=by omega
     rw[←Pb]at q4 q5 Bv⊢;have HZ:=acA Pb;clear hb4 Pb hz3;go_wp2_with fail;refine(yw.o w4 dY.o).mono ?_;rintro e w5 ⟨rfl,rfl⟩;go_wp2_with fail;refine(XV.o w4 dY.o).mono ?_;rintro e w5 RF;obtain⟨rfl,yU,EA⟩:=RF;have Zp:w5.cell? ⟨qb,2,none⟩=some (.int .i64 y.links):=(yU.cell_ Bv hqr 2).trans q4;have Zq:w5.cell? ⟨qb,5,none⟩=some (.bool false):=(yU.cell_ Bv hqr 5).trans q5;have Ci:qb<w5.heap.size:=by have:=yU.size;omega
     have Dt:=acA (wT id (-1) y w5 EA zm.o Pm.o (by omega) hlk);have zK:acB (bO F w4 r (aG T d n1) (.tuple #[]) (.returned (.tuple #[])) w5):=⟨rfl,yU,EA⟩;clear yU EA q4 q5;go_wp2_with fail;refine Dt.o.mono ?_;rintro e w6 K7;obtain⟨rfl,FK,Rx⟩:=K7;have q4:w6.cell? ⟨qb,2,none⟩=some (.int .i64 y.links):=(FK.cell_ Ci hqr 2).trans Zp;have q5:w6.cell? ⟨qb,5,none⟩=some (.bool false):=(FK.cell_ Ci hqr 5).trans Zq;have hz6:qb<w6.heap.size:=by have:=FK.size;omega
     have BM:acB (bO (Grow F w4 w5) w5 r (bq id (fun x=>{x with links:=x.links+ -1}) (aG T d n1)) (.tuple #[]) (.returned (.tuple #[])) w6):=⟨rfl,FK,Rx⟩;clear FK Rx Zp Zq;go_wp2_with fail;go_ret;rw[HQ.o];exact(eB.behind HH.o.low dY.o (zK.o.trans (HH.o.below dY.o acC).low BM.o)).val _
   ·have e1:(y.links==1)=false:=by simpa using h3
    rw[if_neg (fun h=>h3 h.1)]at HQ;clear h3;go_enter Tryz.func121,Tryz.ntmps121;go_wp2_with fail;refine H1.o.mono ?_;rintro e w1 ⟨rfl,hb1⟩;have HB1:=acA hb1;clear hb1;go_wp2_with fail;refine(zN.o w1 HB1.o).mono ?_;rintro e w3 ⟨rfl,hb3⟩;have HB3:=acA (HB1.o.trans (hb3.mono HB1.o.size));have hz3:=HB3.o.size;clear hb3;go_wp2_with fail;refine(H3.o _ (HB3.o.trans ((wall w3 _).mono HB3.o.size))).mono ?_;rintro e w4 ⟨rfl,hb4⟩;have dY:=acA ((HB3.o.trans ((wall w3 _).mono HB3.o.size)).trans (hb4.mono (by simp;omega)));have q4:w4.cell? ⟨w3.heap.size,2,none⟩=some (.int .i64 y.links):=by rw[hb4.cell (p:=⟨w3.heap.size,2,none⟩) (by simp)];exact gZ w3 _ _ 2
    have q5:w4.cell? ⟨w3.heap.size,5,none⟩=some (.bool y.closed):=by rw[hb4.cell (p:=⟨w3.heap.size,5,none⟩) (by simp)];exact gZ w3 _ _ 5
    have Bv:w3.heap.size<w4.heap.size:=by have:=hb4.size;simp at this;omega
    obtain⟨qb,Pb⟩:∃qb,qb=w3.heap.size:=⟨_,rfl⟩;have hqr:qb≠r:=by omega
    rw[←Pb]at q4 q5 Bv⊢;have HZ:=acA Pb;clear hb4 Pb hz3;go_wp2_with fail;refine(yw.o w4 dY.o).mono ?_;rintro e w5 ⟨rfl,rfl⟩;go_wp2_with fail;refine(XV.o w4 dY.o).mono ?_;rintro e w5 RF;obtain⟨rfl,yU,EA⟩:=RF;have Zp:w5.cell? ⟨qb,2,none⟩=some (.int .i64 y.links):=(yU.cell_ Bv hqr 2).trans q4;have Zq:w5.cell? ⟨qb,5,none⟩=some (.bool y.closed):=(yU.cell_ Bv hqr 5).trans q5;have Ci:qb<w5.heap.size:=by have:=yU.size;omega
    have Dt:=acA (wT id (-1) y w5 EA zm.o Pm.o (by omega) hlk);have zK:acB (bO F w4 r (aG T d n1) (.tuple #[]) (.returned (.tuple #[])) w5):=⟨rfl,yU,EA⟩;clear yU EA q4 q5;go_wp2_with fail;refine Dt.o.mono ?_;rintro e w6 K7;obtain⟨rfl,FK,Rx⟩:=K7;have q4:w6.cell? ⟨qb,2,none⟩=some (.int .i64 y.links):=(FK.cell_ Ci hqr 2).trans Zp;have q5:w6.cell? ⟨qb,5,none⟩=some (.bool y.closed):=(FK.cell_ Ci hqr 5).trans Zq;have hz6:qb<w6.heap.size:=by have:=FK.size;omega
    have BM:acB (bO (Grow F w4 w5) w5 r (bq id (fun x=>{x with links:=x.links+ -1}) (aG T d n1)) (.tuple #[]) (.returned (.tuple #[])) w6):=⟨rfl,FK,Rx⟩;clear FK Rx Zp Zq;go_wp2_with fail;go_ret;rw[HQ.o];exact(eB.behind HH.o.low dY.o (zK.o.trans (HH.o.below dY.o acC).low BM.o)).val _
 ·have HQ:acB (bC T ls=((aQ T ls).2,T)):=by
   show bC T ls=_;have he:jL T ls=(aQ T ls).2:=by unfold jL;rw[if_pos h1]
   unfold bC;rw[he,if_neg h1]
  generalize aQ T ls=lk at*;obtain⟨id,e1⟩:=lk;simp only at h1 H1 HQ;have hne:(e1==0)=false:=by simpa using h1
  have hne2:(e1 !=0)=true:=by simpa using h1
  clear h hT hS hE h1;go_enter Tryz.func121,Tryz.ntmps121;go_wp2_with fail;refine H1.o.mono ?_;rintro e w1 ⟨rfl,hb1⟩;have HB1:=acA hb1;clear hb1;go_wp2_with fail;go_ret;exact bO.no HH.o HB1.o HQ.o
end
theorem uy{T:aL}{p:List Nm}{v:Int}(h:jR T p=v)(hv:v≠0):dP T p=(v,T):=by
 unfold dP;rw[h,if_neg hv]
section
variable{F:Nat→Prop}{r:Nat}{T:aL}
theorem MI{S:Nat→Prop}(a:Option Addr)(n c:Nat)(ls:List Nm)(w:World)(h:jW F w r T)(hT:dG T)(hS:aK S w a n (ls.map strOf))(hc:n≤c)(lF:n≤1000000):
  Calls Tryz.prog 47 #[ptr r,.slice a n c] w (bO F w r (dP T ls).2 (.int .i64 (dP T ls).1)):=by
 have hE:(aX T).length≤1000000:=by have:=jw hT;omega
 have hln:ls.length=n:=by have:=hS.length;simpa using this
 have H1:=acA (AB a n c ls w h hT hE hS);have H3:=acA (fun w1 (hb:Below w.heap.size w w1)=>oz a n c ls w1 (h.below hb acC) hT hE (hS.below hb acC) hc lF);have H4:=acA (fun w1 (hb:Below w.heap.size w w1) id=>F4 id w1 (h.below hb acC) hT);have H5:=acA (fun w1 (hb:Below w.heap.size w w1) d nm=>lu d nm w1 (h.below hb acC) hE);have HH:=acA h;have HT:=acA hT;have hr0:=h.low r h.own;by_cases h1:(aQ T ls).2=0
 ·have D5:=DZ h1;rw[D5]at h1 H1;have hl2:aJ T 0 ls=((aJ T 0 ls).1,0):=aaO rfl h1;obtain⟨y,hy⟩:=aaf.1 (gL hT ls 0 (gu hT) h1);have hue:jR T ls=if y.kind≠2 then 23 else if (aJ T 0 ls).1=0 then 1 else if 0<y.names.length then 24 else 0:=by
   unfold jR;rw[D5,if_neg (by rw[h1];simp),dM hy,fU hy]
  obtain⟨id,hid⟩:∃id,id=(aJ T 0 ls).1:=⟨_,rfl⟩;rw[←hid]at hl2 hy hue;rw[hl2]at H1;simp only at H1;have Dt:=acA (fun w1 hb=>H4.o w1 hb id);have hlm:mE T id=if y.kind=2 then(y.names.map (·.1),0)else([],23):=by unfold mE;rw[hy]
  rw[hlm]at Dt;by_cases h2:y.kind=2
  ·rw[if_pos h2]at Dt;rw[if_neg (by simpa using h2)]at hue;by_cases h3:ls=[]
   ·have sO:id=0:=by rw[hid,h3];rfl
    rw[if_pos sO]at hue;have hn0:n=0:=by rw[←hln,h3];rfl
    have HQ:=acA (uy hue (by omega));subst hn0;clear h hT hS hE H4 D5 h1 hl2 hue hid hy h2 hlm h3 sO hln hc;go_enter Tryz.func47,Tryz.ntmps47;go_wp2_with fail;refine H1.o.mono ?_;rintro e w1 ⟨rfl,hb1⟩;have HB1:=acA hb1;clear hb1;go_wp2_with fail;refine(Dt.o w1 HB1.o).mono ?_;rintro e w3 ⟨al,cl,rfl,-,-,hb3⟩;have HB3:=acA (HB1.o.trans (hb3.mono HB1.o.size));clear hb3;simp only[List.length_map];go_wp2_with fail;go_ret;exact bO.no HH.o HB3.o HQ.o
   ·have sO:id≠0:=fun e=>by
     obtain⟨d,x,n1,_,_,hx,_,hxn,_,-⟩:=dx hl2 h3;exact(hT.leads d x hx _ (dU hxn)).2 e
    rw[if_neg sO]at hue;have hn0:((n:Int)==0)=false:=by
     have:ls.length≠0:=fun e=>h3 (aai e);simp;omega
    obtain⟨m,hm⟩:∃m,m=y.names.length:=⟨_,rfl⟩;have hml:(y.names.map (·.1)).length=m:=by rw[List.length_map,hm]
    rw[←hm]at hue;by_cases h4:0<m
    ·rw[if_pos h4]at hue;have HQ:=acA (uy hue (by omega));have hd4:decide (0<m)=true:=by simpa using h4
     generalize y.names.map (·.1)=L at*;subst hml;clear h hT hS hE H4 D5 h1 hl2 hue hid hy h2 hlm h3 sO hln hc hm;go_enter Tryz.func47,Tryz.ntmps47;go_wp2_with fail;refine H1.o.mono ?_;rintro e w1 ⟨rfl,hb1⟩;have HB1:=acA hb1;clear hb1;go_wp2_with fail;refine(Dt.o w1 HB1.o).mono ?_;rintro e w3 ⟨al,cl,rfl,-,-,hb3⟩;have HB3:=acA (HB1.o.trans (hb3.mono HB1.o.size));clear hb3;go_wp2_with fail;go_ret;exact bO.no HH.o HB3.o HQ.o
    ·rw[if_neg h4]at hue;have hm0:m=0:=by omega
     have hnil:y.names=[]:=aai (by omega);rw[hnil]at Dt;obtain⟨d,x,n1,hp1,hp2,hx,hxk,hxn,hmm,-⟩:=dx hl2 h3;rw[hp1]at H3;simp only at H3;have UD:id≠d:=fun e=>by rw[e,hx]at hy;cases hy;rw[hnil]at hxn;cases hxn
     have zm:=acA ((vQ.of hT).cut d n1);obtain⟨k,hk,-⟩:=zB (vQ.of hT) hx hxn;have yw:=acA (fun w1 hb=>H5.o w1 hb d n1);rw[hk]at yw;have XV:acB (∀w4,Below w.heap.size w w4→Calls Tryz.prog 115 #[ptr r,.int .i64 k] w4 (bO F w4 r (aG T d n1) (.tuple #[]))):=fun w4 hb=>by
      obtain⟨k',hk',hc'⟩:=Cr d n1 id x w4 (h.below hb acC) (vQ.of hT) hx hxn;rw[hk]at hk';have:k=k':=by omega
      rw[this];exact hc'
     have Pm:acB (aj id (aG T d n1)=some y):=by
      show aj id (aG T d n1)=some y;unfold aG;rw[aW,if_neg UD];exact hy
     have Sy:=acA hnil;have HQ:acB (dP T ls=(0,bS id (aG T d n1))):=by
      show dP T ls=_;unfold dP yI;rw[hue,hp1,←hid];rfl
     clear h hT hS hE H4 H5 D5 h1 hl2 hue hid hy h2 h3 hp1 hp2 hx hxk hxn hmm hk UD hm0 hnil hml hm h4 hlm hln sO hc;go_enter Tryz.func47,Tryz.ntmps47;go_wp2_with fail;refine H1.o.mono ?_;rintro e w1 ⟨rfl,hb1⟩;have HB1:=acA hb1;clear hb1;go_wp2_with fail;refine(Dt.o w1 HB1.o).mono ?_;rintro e w3 ⟨al,cl,rfl,-,-,hb3⟩;have HB3:=acA (HB1.o.trans (hb3.mono HB1.o.size));clear hb3;simp only[abb,List.length_nil];go_wp2_with fail;refine(H3.o _ HB3.o).mono ?_;rintro e w4 ⟨rfl,hb4⟩;have dY:=acA (HB3.o.trans (hb4.mono HB3.o.size));clear hb4;go_wp2_with fail;refine(yw.o w4 dY.o).mono ?_;rintro e w5 ⟨rfl,rfl⟩;go_wp2_with fail;refine(XV.o w4 dY.o).mono ?_;rintro e w5 RF;obtain⟨rfl,yU,EA⟩:=RF;have Wm:=acA (vR id y w5 EA zm.o.sorted zm.o.len Pm.o Sy.o);have zK:acB (bO F w4 r (aG T d n1) (.tuple #[]) (.returned (.tuple #[])) w5):=⟨rfl,yU,EA⟩;clear yU EA;go_wp2_with fail;refine Wm.o.mono ?_;rintro e w6 K7;have BM:=acA K7;obtain rfl:=K7.1;clear K7;go_wp2_with fail;go_ret;rw[HQ.o];exact(eB.behind HH.o.low dY.o (zK.o.trans (HH.o.below dY.o acC).low BM.o)).val _
  ·rw[if_neg h2]at Dt;rw[if_pos h2]at hue;have HQ:=acA (uy hue (by omega));clear h hT hS hE H4 D5 h1 hl2 hue hid hy h2 hlm hln hc;go_enter Tryz.func47,Tryz.ntmps47;go_wp2_with fail;refine H1.o.mono ?_;rintro e w1 ⟨rfl,hb1⟩;have HB1:=acA hb1;clear hb1;go_wp2_with fail;refine(Dt.o w1 HB1.o).mono ?_;rintro e w3 ⟨al,cl,rfl,-,-,hb3⟩;have HB3:=acA (HB1.o.trans (hb3.mono HB1.o.size));clear hb3;simp only[List.length_nil];go_wp2_with fail;go_ret;exact bO.no HH.o HB3.o HQ.o
 ·have HQ:acB (dP T ls=((aQ T ls).2,T)):=uy (by unfold jR;rw[if_pos h1]) h1;generalize aQ T ls=lk at*;obtain⟨id,e1⟩:=lk;simp only at h1 H1 HQ;have hne:(e1==0)=false:=by simpa using h1
  have hne2:(e1 !=0)=true:=by simpa using h1
  clear h hT hS hE h1 hln hc;go_enter Tryz.func47,Tryz.ntmps47;go_wp2_with fail;refine H1.o.mono ?_;rintro e w1 ⟨rfl,hb1⟩;have HB1:=acA hb1;clear hb1;go_wp2_with fail;go_ret;exact bO.no HH.o HB1.o HQ.o
end
def UE(F:Nat→Prop)(w:World)(bs:List UInt8)(k:Int)(e:Ending)(w':World):Prop:=
 ∃a n c,e= .returned (.tuple #[.slice a n c,.int .i64 k])∧ah F w a n (bs.map bv)∧w=w'∧n≤c
section
variable{F:Nat→Prop}{r:Nat}{T:aL}
theorem Qm(id at_ n:Int)(w:World)(h:jW F w r T)(hT:BJ T)(hA:(Lit.int .i64 at_).wf=true)(hN:(Lit.int .i64 n).wf=true):Calls Tryz.prog 106 #[ptr r,.int .i64 id,.int .i64 at_,.int .i64 n] w (UE (Off F r) w (jZ T id at_ n) (uJ T id at_ n)):=by
 have HF:=acA (sZ id w h hT);have hr0:=h.low r h.own;have hfe:bV T id≠0∨bV T id=0:=by omega
 rcases hfe with h0|h0
 ·have e1:uJ T id at_ n=bV T id∧jZ T id at_ n=[]:=by
   unfold uJ jZ bV at*;cases hx:aj id T with
   |none=>simp
   |some x=>
    rw[hx]at h0;simp only at h0⊢;by_cases hk:x.kind=2
    ·simp[hk]
    ·rw[if_neg hk]at h0;exact absurd rfl h0
  rw[e1.1,e1.2];generalize bV T id=f at*;have hne:(f==0)=false:=by simpa using h0
  have hne2:(f !=0)=true:=by simpa using h0
  clear h hT e1 h0 hA hN;go_enter acw,acg;go_wp2_with fail;refine HF.o.mono ?_;rintro e w1 ⟨rfl,rfl⟩;go_wp2_with fail
  go_ret2
  exact⟨none,0,0,rfl,ah.nil _ _ _,rfl,Nat.le_refl _⟩
 ·obtain⟨x,hx,hk⟩:∃x,aj id T=some x∧x.kind≠2:=by
   unfold bV at h0;cases hx:aj id T with
   |none=>rw[hx]at h0;cases h0
   |some x=>
    rw[hx]at h0;exact⟨x,rfl,fun hk=>by simp[hk]at h0⟩
  obtain⟨k,hi,hq⟩:=mI hT.sorted hx;have hrf:Ka T id=k:=by unfold Ka;rw[if_pos h0];exact hi
  rw[hrf,h0]at HF;have e1:uJ T id at_ n=oP at_ n∧jZ T id at_ n=kU x.b at_ n:=by
   unfold uJ jZ;rw[hx];exact⟨if_neg hk,if_neg hk⟩
  rw[e1.1,e1.2];obtain⟨b,off,c,a,c',hc1,hO,hb,hcd,hcap,hrow⟩:=h.data (k:=k) (d:=x.b) (by rw[List.getElem?_map,hq];rfl);have hkl:k<T.length:=(aae.1 hq).1;rw[List.length_map]at hc1;have hlen:=hT.len;have hsz:=(hT.each id x hx).size;obtain⟨l,hl⟩:∃l,l=x.b.length:=⟨_,rfl⟩;rw[←hl]at hcd hcap hrow hsz;have hcc:=hcap.1;have i0:(0:Int)≤k:=by omega
  have i1:(k:Int)<T.length:=by omega
  have HR:=acA hrow;have HL:=acA hl;simp[Lit.wf,IntKind.min,IntKind.max,IntKind.signed,IntKind.bits]at hA hN;generalize x.b=bs at*;generalize T.length=tl at*;clear h hT e1 h0 hx hk hi hq hrf hl hrow hcap;unfold oP kU;by_cases h1:at_<0
  ·rw[if_pos (.inl h1),if_pos (.inl h1)];go_enter acw,acg;go_wp2_with fail;refine HF.o.mono ?_;rintro e w1 ⟨rfl,rfl⟩;go_wp2_with fail
   go_ret2
   exact⟨none,0,0,rfl,ah.nil _ _ _,rfl,Nat.le_refl _⟩
  ·by_cases h2:n<0
   ·rw[if_pos (.inr h2),if_pos (.inr h2)];go_enter acw,acg;go_wp2_with fail;refine HF.o.mono ?_;rintro e w1 ⟨rfl,rfl⟩;go_wp2_with fail
    go_ret2
    exact⟨none,0,0,rfl,ah.nil _ _ _,rfl,Nat.le_refl _⟩
   ·rw[if_neg (by omega),if_neg (by omega)];obtain⟨A,rfl⟩:∃A:Nat,at_=A:=⟨at_.toNat,by omega⟩;obtain⟨N,rfl⟩:∃N:Nat,n=N:=⟨n.toNat,by omega⟩;simp only[abK];have hd1:decide ((A:Int)<0)=false:=by simp
    have hd2:decide ((N:Int)<0)=false:=by simp
    by_cases h3:l≤A
    ·have hd3:decide ((l:Int)≤(A:Int))=true:=by simp;omega
     have hd3':decide (l≤A)=true:=by simpa using h3
     have HE:acB ((bs.drop A).take N=[]):=by
      show(bs.drop A).take N=[];rw[aaD (by have:=HL.o;omega),List.take_nil]
     go_enter acw,acg;go_wp2_with fail;refine HF.o.mono ?_;rintro e w1 ⟨rfl,rfl⟩;go_wp2_with fail
     go_ret2
     exact⟨none,0,0,rfl,by rw[HE.o];exact ah.nil _ _ _,rfl,Nat.le_refl _⟩
    ·have hd3:decide ((l:Int)≤(A:Int))=false:=by simp;omega
     have hd3':decide (l≤A)=false:=by simpa using h3
     obtain⟨b2,off2,rfl,hO2,hb2,-⟩:=HR.o.at_ (by omega);have hca:¬c'=A:=by omega
     have e1:IntKind.i64.wrap ((l:Int)-(A:Int))=(l:Int)-(A:Int):=aak _ (by omega);have i2:(0:Int)≤(A:Int):=by omega
     have i5:(l:Int)≤(c':Int):=by omega
     by_cases h4:l-A<N
     ·have hd4:decide ((l:Int)-(A:Int)<(N:Int))=true:=by simp;omega
      have e2:IntKind.i64.wrap ((A:Int)+((l:Int)-(A:Int)))=(l:Int):=by rw[show(A:Int)+((l:Int)-(A:Int))=l by omega];exact aak _ (by omega)
      have i3:(A:Int)≤(l:Int):=by omega
      have HE:acB ((bs.drop A).take N=(bs.drop A).take (l-A)):=by
       show(bs.drop A).take N=_;have:=HL.o;rw[List.take_of_length_le (by simp;omega),List.take_of_length_le (by simp;omega)]
      go_enter acw,acg;go_wp2_with fail;refine HF.o.mono ?_;rintro e w1 ⟨rfl,rfl⟩;go_wp2_with fail
      go_ret2
      refine⟨some ⟨b2,off2+A,none⟩,l-A,_,rfl,?_,rfl,by omega⟩;rw[HE.o,aa9,abB];have:=(HR.o.drop A).take (l-A)
      rwa [Nat.min_self]at this
     ·have hd4:decide ((l:Int)-(A:Int)<(N:Int))=false:=by simp;omega
      have e2:IntKind.i64.wrap ((A:Int)+(N:Int))=(A:Int)+(N:Int):=aak _ (by omega);have i3:(A:Int)≤(A:Int)+(N:Int):=by omega
      have i4:(A:Int)+(N:Int)≤(c':Int):=by omega
      go_enter acw,acg;go_wp2_with fail;refine HF.o.mono ?_;rintro e w1 ⟨rfl,rfl⟩;go_wp2_with fail
      go_ret2
      refine⟨some ⟨b2,off2+A,none⟩,N,c'-A,?_,?_,rfl,by omega⟩
      ·show Ending.returned (.tuple #[.slice (some ⟨b2,off2+A,none⟩) (A+N-A) (c'-A),.int .i64 0])=_;rw[show A+N-A=N by omega]
      ·rw[aa9,abB];have:=(HR.o.drop A).take N
       rwa [abv (by omega)]at this
end
end Go.Proofs.YtjnhnlabpccgjaaGreatDoor
