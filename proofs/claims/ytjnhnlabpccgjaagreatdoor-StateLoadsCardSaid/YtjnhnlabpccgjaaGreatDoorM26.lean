/- The -/
import Derived.Test.YtjnhnlabpccgjaaGreatDoorM25
set_option maxRecDepth 100000
set_option maxHeartbeats 64000000
set_option linter.all false
namespace Go.Proofs.YtjnhnlabpccgjaaGreatDoor
open Go.ChangeShapes Go.WideShapes Go.ChangeAt Go.RowKit
theorem QV{T:aA}{p q:List Nm}{v:Int}(h:wT T p q=v)(hv:v≠0):kW T p q=(v,T):=by
 unfold kW;rw[h,if_neg hv]
theorem MR{T:aA}{p q:List Nm}(h:wT T p q=0):kW T p q=(0,GY T p q):=by
 unfold kW;rw[h,if_pos rfl]
theorem gG(w:World)(cs:Array Value)(t:TypeId)(j:Nat):(w.alloc (.cells cs t)).cell? ⟨w.heap.size,j,none⟩=cs[j]? :=by
 have:=(MapKept.heap_alloc w (.cells cs t)).1;unfold World.cell?;simp only[this];rfl
section
variable{F:Nat→Prop}{r:Nat}{T:aA}
theorem bS.no{w w':World}{v:Int}(h:jC F w r T)(hb:Below w.heap.size w w'){q:Int×aA}(hq:q=(v,T)):bS F w r q.2 (.int .i64 q.1) (.returned (.int .i64 v)) w':=by
 rw[hq];exact dS.same h hb
theorem QW{S S':Nat→Prop}(a:Option Addr)(n c:Nat)(ls:List Nm)(a':Option Addr)(n' c':Nat)(ls':List Nm)(w:World)(h:jC F w r T)(hT:dZ T)(hS:aT S w a n (ls.map strOf))(hS':aT S' w a' n' (ls'.map strOf))(hc':n'≤c')(MS:n'≤1000000):
  Calls Tryz.prog 46 #[ptr r,.slice a n c,.slice a' n' c'] w (bS F w r (kW T ls ls').2 (.int .i64 (kW T ls ls').1)):=by
 have hE:(aW T).length≤1000000:=by have:=iT hT;omega
 have H1:=acr (Br a n c ls a' n' c' ls' w hS hS');have H2:=acr (fun w1 (hb:Below w.heap.size w w1)=>wG a n c ls w1 (h.below hb acu) hT hE (hS.below hb acu));have H3:=acr (fun w1 (hb:Below w.heap.size w w1)=>nP a' n' c' ls' w1 (h.below hb acu) hT hE (hS'.below hb acu) hc' MS);have H4:=acr (fun w1 (hb:Below w.heap.size w w1) id=>mg id w1 (h.below hb acu) hT.towP);have H5:=acr (fun w1 (hb:Below w.heap.size w w1) d nm=>kH d nm w1 (h.below hb acu) hE);have HH:=acr h;have HT:=acr hT;have HB:=acr (fun(v:Int) (hv:v≠0) (he:wT T ls ls'=v)=>QV he hv);have HG:=acr (MR (T:=T) (p:=ls) (q:=ls'));have hr0:=h.low r h.own;unfold wT at HB HG;have wB:=acr (gq hT.w ls 0 (fD hT.w));have HPS:=acr (jM (p:=ls') hT);unfold GY at HG;generalize oV ls ls'=f0 at H1 HB HG;generalize aG T 0 ls=lk at H2 HB HG wB;generalize aH T ls'=pl at H3 HB HG HPS;obtain⟨id,e1⟩:=lk;obtain⟨d2,n2,e2⟩:=pl;simp only at H2 H3 HB HG wB HPS;generalize kW T ls ls'=res at HB HG⊢;clear h hT hS hS' hE;by_cases h0:f0=0
 ·subst h0;by_cases h1:e1=0
  ·subst h1;obtain⟨y,hy⟩:=aaf.1 (wB.o rfl);have zQ:=acr (fun w1 hb=>H4.o w1 hb id);have hnd:jN T id=kE id y:=by unfold jN;rw[hy]
   rw[hnd]at zQ;unfold kE at zQ;have hky:bI T id=y.kind:=dh hy;have hly:xC T id=y.links:=by unfold xC;rw[hy]
   rw[hky,hly]at HB;rw[hky,hly]at HG;have HY:=acr hy;have hlk:=(HT.o.each id y hy).links;clear hnd hky hly hy H4;by_cases h2:y.kind=2
   ·have hk1:(y.kind==2)=true:=by simpa using h2
    have HQ:=acr (HB.o 22 (by omega) (by rw[if_neg (by simp),if_neg (by simp),if_pos h2]));clear h2;go_enter ace,ab4;go_wp2_with fail;refine H1.o.mono ?_;rintro e w1 ⟨rfl,hb1⟩;have HB1:=acr hb1;clear hb1;go_wp2_with fail;refine(H2.o w1 HB1.o).mono ?_;rintro e w2 ⟨rfl,hb2⟩;have HB2:=acr (HB1.o.trans (hb2.mono HB1.o.size));clear hb2;go_wp2_with fail;refine(zQ.o w2 HB2.o).mono ?_;rintro e w3 ⟨rfl,hb3⟩;have HB3:=acr (HB2.o.trans (hb3.mono HB2.o.size));have hz3:=HB3.o.size;clear hb3;go_wp2_with fail;go_ret;exact bS.no HH.o (HB3.o.trans ((wall w3 _).mono HB3.o.size)) HQ.o
   ·have hk1:(y.kind==2)=false:=by simpa using h2
    by_cases h3:e2=0
    ·subst h3;obtain⟨x,hx,hxk,hxm⟩:=HPS.o rfl;have hnm:aU T d2=x.names:=dX hx;rw[hnm]at HB;rw[hnm]at HG;have xX:=acr (fun w1 hb=>H5.o w1 hb d2 n2);cases hn:aj n2 x.names with
     |some j=>
      obtain⟨m,hm1,hm2⟩:=sD HT.o.towP hx hn;rw[hm1]at xX;have m0:¬(m:Int)<0:=by omega
      have m1:(0:Int)≤m:=by omega
      have HQ:=acr (HB.o 21 (by omega) (by rw[if_neg (by simp),if_neg (by simp),if_neg h2,if_neg (by simp),hn];rfl));clear h2 hn hx hxk hxm hnm hm1 hm2;go_enter ace,ab4;go_wp2_with fail;refine H1.o.mono ?_;rintro e w1 ⟨rfl,hb1⟩;have HB1:=acr hb1;clear hb1;go_wp2_with fail;refine(H2.o w1 HB1.o).mono ?_;rintro e w2 ⟨rfl,hb2⟩;have HB2:=acr (HB1.o.trans (hb2.mono HB1.o.size));clear hb2;go_wp2_with fail;refine(zQ.o w2 HB2.o).mono ?_;rintro e w3 ⟨rfl,hb3⟩;have HB3:=acr (HB2.o.trans (hb3.mono HB2.o.size));have hz3:=HB3.o.size;clear hb3;go_wp2_with fail;refine(H3.o _ (HB3.o.trans ((wall w3 _).mono HB3.o.size))).mono ?_;rintro e w4 ⟨rfl,hb4⟩;have eT:=acr ((HB3.o.trans ((wall w3 _).mono HB3.o.size)).trans (hb4.mono (by simp;omega)));have q4:w4.cell? ⟨w3.heap.size,2,none⟩=some (.int .i64 y.links):=by rw[hb4.cell (p:=⟨w3.heap.size,2,none⟩) (by simp)];exact gG w3 _ _ 2
      have Bt:w3.heap.size<w4.heap.size:=by have:=hb4.size;simp at this;omega
      clear hb4;go_wp2_with fail;refine(xX.o w4 eT.o).mono ?_;rintro e w5 ⟨rfl,rfl⟩;go_wp2_with fail;go_ret;exact bS.no HH.o eT.o HQ.o
     |none=>
      rw[vI HT.o.sorted hx hn]at xX;by_cases h4:64≤y.links
      ·have HQ:=acr (HB.o 4 (by omega) (by rw[if_neg (by simp),if_neg (by simp),if_neg h2,if_neg (by simp),hn,if_neg (by simp),if_pos h4]));have hd4:decide ((64:Int)≤y.links)=true:=by simpa using h4
       clear h2 hn hx hxk hxm hnm;go_enter ace,ab4;go_wp2_with fail;refine H1.o.mono ?_;rintro e w1 ⟨rfl,hb1⟩;have HB1:=acr hb1;clear hb1;go_wp2_with fail;refine(H2.o w1 HB1.o).mono ?_;rintro e w2 ⟨rfl,hb2⟩;have HB2:=acr (HB1.o.trans (hb2.mono HB1.o.size));clear hb2;go_wp2_with fail;refine(zQ.o w2 HB2.o).mono ?_;rintro e w3 ⟨rfl,hb3⟩;have HB3:=acr (HB2.o.trans (hb3.mono HB2.o.size));have hz3:=HB3.o.size;clear hb3;go_wp2_with fail;refine(H3.o _ (HB3.o.trans ((wall w3 _).mono HB3.o.size))).mono ?_;rintro e w4 ⟨rfl,hb4⟩;have eT:=acr ((HB3.o.trans ((wall w3 _).mono HB3.o.size)).trans (hb4.mono (by simp;omega)));have q4:w4.cell? ⟨w3.heap.size,2,none⟩=some (.int .i64 y.links):=by rw[hb4.cell (p:=⟨w3.heap.size,2,none⟩) (by simp)];exact gG w3 _ _ 2
       have Bt:w3.heap.size<w4.heap.size:=by have:=hb4.size;simp at this;omega
       clear hb4;go_wp2_with fail;refine(xX.o w4 eT.o).mono ?_;rintro e w5 ⟨rfl,rfl⟩;go_wp2_with fail;go_ret;exact bS.no HH.o eT.o HQ.o
      ·have HQ:=acr (HG.o (by rw[if_neg (by simp),if_neg (by simp),if_neg h2,if_neg (by simp),hn,if_neg (by simp),if_neg h4]));have hd4:decide ((64:Int)≤y.links)=false:=by simpa using h4
       have hid:id≠d2:=fun e=>by have:=HY.o;rw[e,hx]at this;cases this;exact h2 hxk
       have HL:=acr (vJ.of HT.o);have HAD:=acr (fun w4 (hb:Below w.heap.size w w4)=>Cy d2 n2 id x w4 (HH.o.below hb acu) HL.o hx hn);have Qm:acs (aj id (setName T d2 n2 id)=some y):=by
        show aj id (setName T d2 n2 id)=some y;unfold setName;rw[bf,if_neg hid];exact HY.o
       have yD:acs (vJ (setName T d2 n2 id)):=HL.o.put hx hn (iT HT.o) id;clear h2 hn hx hxk hxm hnm h4 hid;go_enter ace,ab4;go_wp2_with fail;refine H1.o.mono ?_;rintro e w1 ⟨rfl,hb1⟩;have HB1:=acr hb1;clear hb1;go_wp2_with fail;refine(H2.o w1 HB1.o).mono ?_;rintro e w2 ⟨rfl,hb2⟩;have HB2:=acr (HB1.o.trans (hb2.mono HB1.o.size));clear hb2;go_wp2_with fail;refine(zQ.o w2 HB2.o).mono ?_;rintro e w3 ⟨rfl,hb3⟩;have HB3:=acr (HB2.o.trans (hb3.mono HB2.o.size));have hz3:=HB3.o.size;clear hb3;go_wp2_with fail;refine(H3.o _ (HB3.o.trans ((wall w3 _).mono HB3.o.size))).mono ?_;rintro e w4 ⟨rfl,hb4⟩;have eT:=acr ((HB3.o.trans ((wall w3 _).mono HB3.o.size)).trans (hb4.mono (by simp;omega)));have q4:w4.cell? ⟨w3.heap.size,2,none⟩=some (.int .i64 y.links):=by rw[hb4.cell (p:=⟨w3.heap.size,2,none⟩) (by simp)];exact gG w3 _ _ 2
       have Bt:w3.heap.size<w4.heap.size:=by have:=hb4.size;simp at this;omega
       clear hb4;go_wp2_with fail;refine(xX.o w4 eT.o).mono ?_;rintro e w5 ⟨rfl,rfl⟩;go_wp2_with fail;refine(HAD.o w4 eT.o).mono ?_;rintro e w5 SK;obtain⟨rfl,yC,H_⟩:=SK;have Gi:=acr (wJ id 1 y w5 H_ yD.o Qm.o (by omega) hlk);have wZ:acs (bS F w4 r (setName T d2 n2 id) (.tuple #[]) (.returned (.tuple #[])) w5):=⟨rfl,yC,H_⟩;clear yC H_;go_wp2_with fail;refine Gi.o.mono ?_;rintro e w6 Le;have FV:=acr Le;obtain rfl:=Le.1;clear Le;go_wp2_with fail;go_ret;rw[HQ.o];exact(dS.behind HH.o.low eT.o (wZ.o.trans (HH.o.below eT.o acu).low FV.o)).val _
    ·have HQ:=acr (HB.o e2 h3 (by rw[if_neg (by simp),if_neg (by simp),if_neg h2,if_pos h3]));have hne:(e2==0)=false:=by simpa using h3
     have hne2:(e2 !=0)=true:=by simpa using h3
     clear h2 h3;go_enter ace,ab4;go_wp2_with fail;refine H1.o.mono ?_;rintro e w1 ⟨rfl,hb1⟩;have HB1:=acr hb1;clear hb1;go_wp2_with fail;refine(H2.o w1 HB1.o).mono ?_;rintro e w2 ⟨rfl,hb2⟩;have HB2:=acr (HB1.o.trans (hb2.mono HB1.o.size));clear hb2;go_wp2_with fail;refine(zQ.o w2 HB2.o).mono ?_;rintro e w3 ⟨rfl,hb3⟩;have HB3:=acr (HB2.o.trans (hb3.mono HB2.o.size));have hz3:=HB3.o.size;clear hb3;go_wp2_with fail;refine(H3.o _ (HB3.o.trans ((wall w3 _).mono HB3.o.size))).mono ?_;rintro e w4 ⟨rfl,hb4⟩;have eT:=acr ((HB3.o.trans ((wall w3 _).mono HB3.o.size)).trans (hb4.mono (by simp;omega)));have q4:w4.cell? ⟨w3.heap.size,2,none⟩=some (.int .i64 y.links):=by rw[hb4.cell (p:=⟨w3.heap.size,2,none⟩) (by simp)];exact gG w3 _ _ 2
     have Bt:w3.heap.size<w4.heap.size:=by have:=hb4.size;simp at this;omega
     clear hb4;go_wp2_with fail;go_ret;exact bS.no HH.o eT.o HQ.o
  ·have HQ:=acr (HB.o e1 h1 (by rw[if_neg (by simp),if_pos h1]));have hne:(e1==0)=false:=by simpa using h1
   have hne2:(e1 !=0)=true:=by simpa using h1
   clear h1;go_enter ace,ab4;go_wp2_with fail;refine H1.o.mono ?_;rintro e w1 ⟨rfl,hb1⟩;have HB1:=acr hb1;clear hb1;go_wp2_with fail;refine(H2.o w1 HB1.o).mono ?_;rintro e w2 ⟨rfl,hb2⟩;have HB2:=acr (HB1.o.trans (hb2.mono HB1.o.size));clear hb2;go_wp2_with fail;go_ret;exact bS.no HH.o HB2.o HQ.o
 ·have HQ:=acr (HB.o f0 h0 (if_pos h0));have hne:(f0==0)=false:=by simpa using h0
  have hne2:(f0 !=0)=true:=by simpa using h0
  clear h0;go_enter ace,ab4;go_wp2_with fail;refine H1.o.mono ?_;rintro e w1 ⟨rfl,hb1⟩;have HB1:=acr hb1;clear hb1;go_wp2_with fail;go_ret;exact bS.no HH.o HB1.o HQ.o
end
theorem Ia{id:Int}:∀{T:aA} {x:bJ},aI iA T→aj id T=some x→(aW T).filter (fun e=>decide (e.1=id))=x.names.map fun e=>(id,e.1,e.2)
 |[],x,_,hx=>by cases hx
 |y::r,x,hs,hx=>by
  obtain⟨h1,h2⟩:=aal.1 hs;rw[fF]at hx;rw[eY,aa7];by_cases hy:y.1=id
  ·rw[if_pos hy]at hx;cases hx;have e1:(lQ y).filter (fun e=>decide (e.1=id))=lQ y:=by
    rw[aa0];intro e he;obtain⟨z,_,rfl⟩:=List.mem_map.1 he;simp[hy]
   have e2:(aW r).filter (fun e=>decide (e.1=id))=[]:=by
    rw[abY];intro e he;obtain⟨q,hq,hk,_⟩:=H7 he;have:=h1 q hq;simp only[aah]at this;simp only[aah];omega
   rw[e1,e2,aaA];unfold lQ;rw[hy]
  ·rw[if_neg hy]at hx;have e1:(lQ y).filter (fun e=>decide (e.1=id))=[]:=by
    rw[abY];intro e he;obtain⟨z,_,rfl⟩:=List.mem_map.1 he;simp[hy]
   rw[e1,List.nil_append,Ia h2 hx]
def J4(E:List jT)(id:Int)(k:Nat):List Nm:=((E.take k).filter fun e=>decide (e.1=id)).map fun e=>e.2.1
def XV(E:List jT)(id:Int)(k:Nat):List Value:=(J4 E id k).map fun n=> .string (strOf n)
theorem XW{E:List jT}{id:Int}{k:Nat}{e:jT}(hx:E[k]? =some e)(he:e.1=id):J4 E id (k+1)=J4 E id k++[e.2.1]:=by
 obtain⟨hk,h⟩:=aac.1 hx;unfold J4;rw[aae hk,aa7,h,List.map_append];simp[he]
theorem lnk_no{E:List jT}{id:Int}{k:Nat}{e:jT}(hx:E[k]? =some e)(he:e.1≠id):J4 E id (k+1)=J4 E id k:=by
 obtain⟨hk,h⟩:=aac.1 hx;unfold J4;rw[aae hk,aa7,h,List.map_append];simp[he]
theorem XY(E:List jT)(id:Int)(k:Nat):(J4 E id k).length≤k:=by
 unfold J4;rw[List.length_map];exact aax (aa4 _ _) (List.length_take_le _ _)
theorem XZ:(Tryz.prog.info? 9).map (fun i=>(i.zero,i.size,i.bytes))=some (some (.string ByteArray.empty),1,16):=by kernel_rfl
def zu(w0:World)(B:Nat)(E:List jT)(id:Int)(k:Nat)(v:Value)(wr:World):Prop:=
 wr.ownsRow B 9 1 v (J4 E id k).length (XV E id k)∧Below B w0 wr∧B≤wr.heap.size
theorem QX{w0 wr w3:World}{B:Nat}{E:List jT}{id:Int}{k m c:Nat}{nm:Nm}{v:Value}{A:Option Addr}{o:Obj}(hp:J4 E id (k+1)=J4 E id k++[nm])(hm:m=(J4 E id k).length)(ho3:w3.ownsRow B 9 1 (.slice A (m+1) c) (m+1) (XV E id k++[.string (strOf nm)]))(ho:wr.ownsRow B 9 1 v m (XV E id k))(hg:(wr.alloc o).grownBy w3 v.ownBlock)(hB:Below B w0 wr)(SL:B≤wr.heap.size):zu w0 B E id (k+1) (.slice A (m+1) c) w3:=by
 have hs:=hg.size;have e1:(J4 E id (k+1)).length=m+1:=by rw[hp,List.length_append,hm];rfl
 have e2:XV E id (k+1)=XV E id k++[.string (strOf nm)]:=by unfold XV;rw[hp,List.map_append];rfl
 unfold zu;rw[e1,e2];refine⟨ho3,(hB.alloc SL o).trans ⟨hg.os,hg.tape,hg.output,hg.size,fun b hb=>hg.block b (by simp;omega) (fun e=>by have:=dA ho b e.symm;omega)⟩,?_⟩;rw[Pe]at hs;omega
theorem UH{w w2 wr:World}{E:List jT}{id:Int}{k:Nat}{v:Value}{L:List Nm}(h:zu w2 w2.heap.size E id k v wr)(hL:J4 E id k=L)(hb:Below w.heap.size w w2)(hs:∀l∈L,l.length≤maxLen):Hl w (L,0) (.returned (.tuple #[v,.int .i64 0])) wr:=by
 obtain⟨ho,hB,SL⟩:=h;have hsz:=hb.size;unfold XV at ho;rw[hL]at ho;obtain⟨a,c,rfl,hlc⟩:=fM ho;obtain⟨_,hrow⟩:=ah.mR ho;refine⟨a,c,rfl,hlc,⟨?_,fun s hs'=> ?_⟩,hb.trans (hB.mono hsz)⟩
 ·rw[List.map_map];exact hrow.mono fun b hb=>⟨by omega,hb.2⟩
 ·obtain⟨l,hl,rfl⟩:=List.mem_map.1 hs';rw[fK];exact hs l hl
section
variable{F:Nat→Prop}{r:Nat}{T:aA}
theorem Gj(id:Int)(w:World)(h:jC F w r T)(hT:dZ T):Calls Tryz.prog 105 #[ptr r,.int .i64 id] w (Hl w (uE T id)):=by
 have hE:=iT hT;have H4:=acr (mg id w h hT.towP);have hr0:=h.low r h.own;unfold jN at H4;unfold uE;cases hx:aj id T with
 |none=>
  rw[hx]at H4;clear h hx hT;go_enter Tryz.func105,Tryz.ntmps105;go_wp2_with fail;refine H4.o.mono ?_;rintro e w1 ⟨rfl,hb1⟩;go_wp2_with fail
  go_ret2
  exact⟨none,0,rfl,Nat.le_refl _,⟨ah.nil _ _ _,by simp⟩,hb1.trans ((wall w1 _).mono hb1.size)⟩
 |some x=>
  rw[hx]at H4;simp only at H4;unfold kE at H4;by_cases hk:x.kind=2
  ·rw[hk]at H4;simp only[if_pos hk];obtain⟨i0,hi,hz,hz1,hz2⟩:=aam XZ;have HI:=acr (And.intro hi (And.intro hz (And.intro hz1 hz2)));have HN:=acr (Ia hT.sorted hx);have HH:=acr (fun w1 (hb:Below w.heap.size w w1)=>(h.below hb acu).ent);have hgood:=acr ((hT.each id x hx).good);obtain⟨n,hn⟩:∃n,n=(aW T).length:=⟨_,rfl⟩;generalize aW T=E at*;rw[←hn]at hE;have HL:=acr hn;clear h hx hT hk hi hz hz1 hz2 hn;go_enter Tryz.func105,Tryz.ntmps105;go_wp2_with fail;refine H4.o.mono ?_;rintro e w1 ⟨rfl,hb1⟩;have HB1:=acr (hb1.trans ((wall w1 (.cells #[.int .i64 id,.int .i64 2,.int .i64 x.links,.int .i64 x.b.length,.int .u64 x.aF,.bool x.closed] 39)).mono hb1.size));have hs1:=hb1.size;clear hb1;go_wp2_with fail;generalize (w1.alloc (.cells #[.int .i64 id,.int .i64 2,.int .i64 x.links,.int .i64 x.b.length,.int .u64 x.aF,.bool x.closed] 39))=w2 at*;obtain⟨aE,cE,q2,q3,hrow,-⟩:=HH.o w2 HB1.o;rw[←HL.o]at q2 q3 hrow;have HR:=acr hrow;have hs2:=HB1.o.size;have hr2:r<w2.heap.size:=by omega
   clear hrow HH
   go_loopw [8,9] (fun v i wr=>∃k:Nat,k≤n∧i= .int .i64 k∧zu w2 w2.heap.size E id k v wr) (fun _ i _=>n-(intOf i).toNat)
   case atStart=>exact⟨0,by omega,rfl,⟨rfl,.inl ⟨rfl,rfl⟩⟩,Below.refl _ _,Nat.le_refl _⟩
   case round=>
    obtain⟨k,hk,rfl,hown,hB,SL⟩:=hrel;have HO:=acr hown;have HB:=acr hB;have c2:wr.cell? ⟨r,2,none⟩=some (.slice aE n cE):=by rw[hB.cell (p:=⟨r,2,none⟩) hr2];exact q2
    have hrr:r<wr.heap.size:=by omega
    have hll:=XY E id k;clear hB hown;by_cases hlt:k<n
    ·have hx:E[k]? =some (E[k]'(by have:=HL.o;omega)):=List.getElem?_eq_getElem _;obtain⟨q,hq⟩:∃q,q=E[k]'(by have:=HL.o;omega):=⟨_,rfl⟩;rw[←hq]at hx;have HX:=acr hx;obtain⟨b,off,rfl,hF,hb,hi,hc⟩:=(HR.o.below HB.o acu).wide jI HL.o.symm hx (by omega);have c0:wr.cell? ⟨b,off+k*3,none⟩=some (.int .i64 q.1):=hc 0 (by omega);have c1:wr.cell? ⟨b,off+k*3+1,none⟩=some (.string (strOf q.2.1)):=hc 1 (by omega);clear hx hq hc;have i0:(0:Int)≤k:=by omega
     have i1:(k:Int)<n:=by omega
     by_cases hp:q.1=id
     ·have hpp:(q.1==id)=true:=by simpa using hp
      have HP:=acr (XW HX.o hp);obtain⟨m,hm⟩:∃m,m=(J4 E id k).length:=⟨_,rfl⟩;have HM:=acr hm;rw[←hm]at HO hll;clear hp hm;go_wp2_with ((at_builtin;refine aQ rfl _ _ 26 rfl w2.heap.size 9 _ (.string ByteArray.empty) 16 Tryz.underlying26 HI.o.1 HI.o.2.1 HI.o.2.2.1 HI.o.2.2.2 rfl _ m (XV E id k) rfl (HO.o.alloc _) (some ⟨wr.heap.size,0,none⟩) 1 1 [.string (strOf q.2.1)] rfl (yN _ _) (by simp[Value.oneCell']) (by unfold maxLen;omega) (by omega) (by simp;omega) ?_;intro A1 k1 w3 hown3 hgrow3 _ _));have HG:=acr hgrow3;have WR:=acr hown3;clear hgrow3 hown3;go_wp2;go_roundw
      case rel=>exact⟨k+1,by omega,by go_num,QX HP.o HM.o WR.o HO.o HG.o HB.o SL⟩
      case measure=>simp[intOf];omega
     ·have hpp:(q.1==id)=false:=by simpa using hp
      have HP:=acr (lnk_no HX.o hp);clear hp;go_wp2;go_roundw
      case rel=>exact⟨k+1,by omega,by go_num,by unfold zu XV;rw[HP.o];exact⟨HO.o,HB.o,SL⟩⟩
      case measure=>simp[intOf];omega
    ·go_wp2
     go_ret2
     have hkn:k=n:=by omega
     refine UH ⟨HO.o,HB.o,SL⟩ ?_ HB1.o ?_
     ·unfold J4;rw[List.take_of_length_le (by have:=HL.o;omega),HN.o,List.map_map];rfl
     ·intro l hl;obtain⟨e,he,rfl⟩:=List.mem_map.1 hl;have:=yK _ (hgood.o e he);unfold maxLen;omega
  ·have e1:(x.kind==2)=false:=by simpa using hk
   have e2:(x.kind !=2)=true:=by simpa using hk
   simp only[if_neg hk];clear h hx hT hk;go_enter Tryz.func105,Tryz.ntmps105;go_wp2_with fail;refine H4.o.mono ?_;rintro e w1 ⟨rfl,hb1⟩;go_wp2_with fail
   go_ret2
   exact⟨none,0,rfl,Nat.le_refl _,⟨ah.nil _ _ _,by simp⟩,hb1.trans ((wall w1 _).mono hb1.size)⟩
end
theorem Keeps.cell_{r b:Nat}{w w':World}(h:Keeps (fun x=>x=r) w w')(hb:b<w.heap.size)(hn:b≠r)(j:Nat):w'.cell? ⟨b,j,none⟩=w.cell? ⟨b,j,none⟩:=aau (w:=w) (w':=w') (a:=⟨b,j,none⟩) (h.block b hb hn)
theorem DY{T:aA}{p:List Nm}(h:(aY T p).2=0):aY T p=aG T 0 p:=by
 unfold aY at h⊢;by_cases h1:bH p≠0
 ·rw[if_pos h1]at h;exact absurd h h1
 ·rw[if_neg h1]
section
variable{F:Nat→Prop}{r:Nat}{T:aA}
theorem J5{S:Nat→Prop}(a:Option Addr)(n c:Nat)(ls:List Nm)(w:World)(h:jC F w r T)(hT:dZ T)(hS:aT S w a n (ls.map strOf))(hc:n≤c)(mQ:n≤1000000):
  Calls Tryz.prog 121 #[ptr r,.slice a n c] w (bS F w r (bL T ls).2 (.int .i64 (bL T ls).1)):=by
 have hE:(aW T).length≤1000000:=by have:=iT hT;omega
 have H1:=acr (Aq a n c ls w h hT hE hS);have H3:=acr (fun w1 (hb:Below w.heap.size w w1)=>nP a n c ls w1 (h.below hb acu) hT hE (hS.below hb acu) hc mQ);have H4:=acr (fun w1 (hb:Below w.heap.size w w1) id=>mg id w1 (h.below hb acu) hT.towP);have H5:=acr (fun w1 (hb:Below w.heap.size w w1) d nm=>kH d nm w1 (h.below hb acu) hE);have HH:=acr h;have HT:=acr hT;have hr0:=h.low r h.own;by_cases h1:(aY T ls).2=0
 ·have DZ:=DY h1;rw[DZ]at h1 H1;have hl2:aG T 0 ls=((aG T 0 ls).1,0):=aaE rfl h1;obtain⟨y,hy⟩:=aaf.1 (gq hT.w ls 0 (fD hT.w) h1);have hue:jk T ls=if y.kind=2 then 22 else 0:=by
   unfold jk;rw[DZ,if_neg (by rw[h1];simp),dh hy]
  obtain⟨id,hid⟩:∃id,id=(aG T 0 ls).1:=⟨_,rfl⟩;rw[←hid]at hl2 hy;rw[hl2]at H1;simp only at H1;have zQ:=acr (fun w1 hb=>H4.o w1 hb id);have hnd:jN T id=kE id y:=by unfold jN;rw[hy]
  rw[hnd]at zQ;unfold kE at zQ;have hlk:=(hT.each id y hy).links;by_cases h2:y.kind=2
  ·have hk1:(y.kind==2)=true:=by simpa using h2
   have HQ:acs (bL T ls=(22,T)):=by
    show bL T ls=(22,T);unfold bL;rw[hue,if_pos h2];rfl
   clear h hT hS hE H4 DZ h1 hl2 hue hid hnd hy h2;go_enter Tryz.func121,Tryz.ntmps121;go_wp2_with fail;refine H1.o.mono ?_;rintro e w1 ⟨rfl,hb1⟩;have HB1:=acr hb1;clear hb1;go_wp2_with fail;refine(zQ.o w1 HB1.o).mono ?_;rintro e w3 ⟨rfl,hb3⟩;have HB3:=acr (HB1.o.trans (hb3.mono HB1.o.size));have hz3:=HB3.o.size;clear hb3;go_wp2_with fail;go_ret;exact bS.no HH.o (HB3.o.trans ((wall w3 _).mono HB3.o.size)) HQ.o
  ·have hk1:(y.kind==2)=false:=by simpa using h2
   have hls:ls≠[]:=fun e=>by
    rw[e]at hl2;simp only[aG,abB,aaI]at hl2;obtain⟨z,hz,hzk⟩:=gJ hT.root;rw[←hl2,hz]at hy;cases hy;exact h2 hzk
   obtain⟨d,x,n1,hp1,hp2,hx,hxk,hxn,hm,-⟩:=dH hl2 hls;rw[hp1]at H3;simp only at H3;have UJ:id≠d:=fun e=>by rw[e,hx]at hy;cases hy;exact h2 hxk
   have yD:=acr ((vJ.of hT).cut d n1);obtain⟨k,hk,-⟩:=zq (vJ.of hT) hx hxn;have xX:=acr (fun w1 hb=>H5.o w1 hb d n1);rw[hk]at xX;have X0:acs (∀w4,Below w.heap.size w w4→Calls Tryz.prog 115 #[ptr r,.int .i64 k] w4 (bS F w4 r (aK T d n1) (.tuple #[]))):=fun w4 hb=>by
    obtain⟨k',hk',hc'⟩:=Cx d n1 id x w4 (h.below hb acu) (vJ.of hT) hx hxn;rw[hk]at hk';have:k=k':=by omega
    rw[this];exact hc'
   have Qm:acs (aj id (aK T d n1)=some y):=by
    show aj id (aK T d n1)=some y;unfold aK;rw[bf,if_neg UJ];exact hy
   have HY2:acs (aj id (bC id (fun x:bJ=>{x with links:=x.links+ -1}) (aK T d n1))=some {y with links:=y.links+ -1}):=by
    show aj id (bC id (fun x:bJ=>{x with links:=x.links+ -1}) (aK T d n1))=some {y with links:=y.links+ -1};rw[bf,if_pos rfl,Qm.o];rfl
   have HL2:acs (vJ (bC id (fun x:bJ=>{x with links:=x.links+ -1}) (aK T d n1))):=yD.o.bC id (fun _=>by exact rfl);have hnil:y.names=[]:=(hT.each id y hy).file ((hT.each id y hy).kind.resolve_right h2);have HQ:acs (bL T ls=(0,if y.links=1∧y.closed=true then bP id (bC id (fun x:bJ=>{x with links:=x.links+ -1}) (aK T d n1))else bC id (fun x:bJ=>{x with links:=x.links+ -1}) (aK T d n1))):=by
    show bL T ls=_;unfold bL;rw[hue,if_neg h2];refine aaE rfl ?_;show rU T ls=_;unfold rU gY;rw[hp1,←hid];have e0:(fun x:bJ=>{x with links:=x.links-1})=fun x:bJ=>{x with links:=x.links+ -1}:=rfl;simp only[e0];rw[HY2.o];simp only;by_cases hq:y.links=1∧y.closed=true
    ·rw[if_pos hq,if_pos ⟨by omega,hq.2⟩]
    ·rw[if_neg hq,if_neg (fun h=>hq ⟨by omega,h.2⟩)]
   clear h hT hS hE H4 H5 DZ h1 hl2 hue hid hnd hy h2 hls hp1 hp2 hx hxk hxn hm hk UJ;by_cases h3:y.links=1
   ·have e1:(y.links==1)=true:=by simpa using h3
    cases h4:y.closed with
    |true=>
     rw[if_pos ⟨h3,h4⟩]at HQ;rw[h4]at zQ;have hcl:=acr h4;clear h3 h4;go_enter Tryz.func121,Tryz.ntmps121;go_wp2_with fail;refine H1.o.mono ?_;rintro e w1 ⟨rfl,hb1⟩;have HB1:=acr hb1;clear hb1;go_wp2_with fail;refine(zQ.o w1 HB1.o).mono ?_;rintro e w3 ⟨rfl,hb3⟩;have HB3:=acr (HB1.o.trans (hb3.mono HB1.o.size));have hz3:=HB3.o.size;clear hb3;go_wp2_with fail;refine(H3.o _ (HB3.o.trans ((wall w3 _).mono HB3.o.size))).mono ?_;rintro e w4 ⟨rfl,hb4⟩;have eT:=acr ((HB3.o.trans ((wall w3 _).mono HB3.o.size)).trans (hb4.mono (by simp;omega)));have q4:w4.cell? ⟨w3.heap.size,2,none⟩=some (.int .i64 y.links):=by rw[hb4.cell (p:=⟨w3.heap.size,2,none⟩) (by simp)];exact gG w3 _ _ 2
     have q5:w4.cell? ⟨w3.heap.size,5,none⟩=some (.bool true):=by rw[hb4.cell (p:=⟨w3.heap.size,5,none⟩) (by simp)];exact(gG w3 _ _ 5)
     have Bt:w3.heap.size<w4.heap.size:=by have:=hb4.size;simp at this;omega
     obtain⟨qb,Qk⟩:∃qb,qb=w3.heap.size:=⟨_,rfl⟩;have hqr:qb≠r:=by omega
     rw[←Qk]at q4 q5 Bt⊢;have HZ:=acr Qk;clear hb4 Qk hz3;go_wp2_with fail;refine(xX.o w4 eT.o).mono ?_;rintro e w5 ⟨rfl,rfl⟩;go_wp2_with fail;refine(X0.o w4 eT.o).mono ?_;rintro e w5 SK;obtain⟨rfl,yC,H_⟩:=SK;have ZP:w5.cell? ⟨qb,2,none⟩=some (.int .i64 y.links):=(yC.cell_ Bt hqr 2).trans q4;have ZQ:w5.cell? ⟨qb,5,none⟩=some (.bool true):=(yC.cell_ Bt hqr 5).trans q5;have IV:qb<w5.heap.size:=by have:=yC.size;omega
     have Gi:=acr (wJ id (-1) y w5 H_ yD.o Qm.o (by omega) hlk);have wZ:acs (bS F w4 r (aK T d n1) (.tuple #[]) (.returned (.tuple #[])) w5):=⟨rfl,yC,H_⟩;clear yC H_ q4 q5;go_wp2_with fail;refine Gi.o.mono ?_;rintro e w6 Le;obtain⟨rfl,Gl,SF⟩:=Le;have q4:w6.cell? ⟨qb,2,none⟩=some (.int .i64 y.links):=(Gl.cell_ IV hqr 2).trans ZP;have q5:w6.cell? ⟨qb,5,none⟩=some (.bool true):=(Gl.cell_ IV hqr 5).trans ZQ;have hz6:qb<w6.heap.size:=by have:=Gl.size;omega
     have F4:=acr (vK id _ w6 SF HL2.o.sorted HL2.o.len HY2.o hnil);have FV:acs (bS (Grow F w4 w5) w5 r (bC id (fun x=>{x with links:=x.links+ -1}) (aK T d n1)) (.tuple #[]) (.returned (.tuple #[])) w6):=⟨rfl,Gl,SF⟩;clear Gl SF ZP ZQ;go_wp2_with fail;refine F4.o.mono ?_;rintro e w7 ht7;have WS:=acr ht7;obtain rfl:=ht7.1;clear ht7;go_wp2_with fail;go_ret;rw[HQ.o];have ht56:=wZ.o.trans (HH.o.below eT.o acu).low FV.o;exact(dS.behind HH.o.low eT.o (wZ.o.trans (HH.o.below eT.o acu).low (FV.o.trans wZ.o.2.2.low WS.o))).val _
    |false=>
     rw[if_neg (by rw[h4];simp)]at HQ;rw[h4]at zQ;clear h3 h4;go_enter Tryz.func121,Tryz.ntmps121;go_wp2_with fail;refine H1.o.mono ?_;rintro e w1 ⟨rfl,hb1⟩;have HB1:=acr hb1;clear hb1;go_wp2_with fail;refine(zQ.o w1 HB1.o).mono ?_;rintro e w3 ⟨rfl,hb3⟩;have HB3:=acr (HB1.o.trans (hb3.mono HB1.o.size));have hz3:=HB3.o.size;clear hb3;go_wp2_with fail;refine(H3.o _ (HB3.o.trans ((wall w3 _).mono HB3.o.size))).mono ?_;rintro e w4 ⟨rfl,hb4⟩;have eT:=acr ((HB3.o.trans ((wall w3 _).mono HB3.o.size)).trans (hb4.mono (by simp;omega)));have q4:w4.cell? ⟨w3.heap.size,2,none⟩=some (.int .i64 y.links):=by rw[hb4.cell (p:=⟨w3.heap.size,2,none⟩) (by simp)];exact gG w3 _ _ 2
     have q5:w4.cell? ⟨w3.heap.size,5,none⟩=some (.bool false):=by rw[hb4.cell (p:=⟨w3.heap.size,5,none⟩) (by simp)];exact gG w3 _ _ 5
     have Bt:w3.heap.size<w4.heap.size:=by have:=hb4.size;simp at this;omega
     obtain⟨qb,Qk⟩:∃qb,qb=w3.heap.size:=⟨_,rfl⟩;have hqr:qb≠r:=by omega
     rw[←Qk]at q4 q5 Bt⊢;have HZ:=acr Qk;clear hb4 Qk hz3;go_wp2_with fail;refine(xX.o w4 eT.o).mono ?_;rintro e w5 ⟨rfl,rfl⟩;go_wp2_with fail;refine(X0.o w4 eT.o).mono ?_;rintro e w5 SK;obtain⟨rfl,yC,H_⟩:=SK;have ZP:w5.cell? ⟨qb,2,none⟩=some (.int .i64 y.links):=(yC.cell_ Bt hqr 2).trans q4;have ZQ:w5.cell? ⟨qb,5,none⟩=some (.bool false):=(yC.cell_ Bt hqr 5).trans q5;have IV:qb<w5.heap.size:=by have:=yC.size;omega
     have Gi:=acr (wJ id (-1) y w5 H_ yD.o Qm.o (by omega) hlk);have wZ:acs (bS F w4 r (aK T d n1) (.tuple #[]) (.returned (.tuple #[])) w5):=⟨rfl,yC,H_⟩;clear yC H_ q4 q5;go_wp2_with fail;refine Gi.o.mono ?_;rintro e w6 Le;obtain⟨rfl,Gl,SF⟩:=Le;have q4:w6.cell? ⟨qb,2,none⟩=some (.int .i64 y.links):=(Gl.cell_ IV hqr 2).trans ZP;have q5:w6.cell? ⟨qb,5,none⟩=some (.bool false):=(Gl.cell_ IV hqr 5).trans ZQ;have hz6:qb<w6.heap.size:=by have:=Gl.size;omega
     have FV:acs (bS (Grow F w4 w5) w5 r (bC id (fun x=>{x with links:=x.links+ -1}) (aK T d n1)) (.tuple #[]) (.returned (.tuple #[])) w6):=⟨rfl,Gl,SF⟩;clear Gl SF ZP ZQ;go_wp2_with fail;go_ret;rw[HQ.o];exact(dS.behind HH.o.low eT.o (wZ.o.trans (HH.o.below eT.o acu).low FV.o)).val _
   ·have e1:(y.links==1)=false:=by simpa using h3
    rw[if_neg (fun h=>h3 h.1)]at HQ;clear h3;go_enter Tryz.func121,Tryz.ntmps121;go_wp2_with fail;refine H1.o.mono ?_;rintro e w1 ⟨rfl,hb1⟩;have HB1:=acr hb1;clear hb1;go_wp2_with fail;refine(zQ.o w1 HB1.o).mono ?_;rintro e w3 ⟨rfl,hb3⟩;have HB3:=acr (HB1.o.trans (hb3.mono HB1.o.size));have hz3:=HB3.o.size;clear hb3;go_wp2_with fail;refine(H3.o _ (HB3.o.trans ((wall w3 _).mono HB3.o.size))).mono ?_;rintro e w4 ⟨rfl,hb4⟩;have eT:=acr ((HB3.o.trans ((wall w3 _).mono HB3.o.size)).trans (hb4.mono (by simp;omega)));have q4:w4.cell? ⟨w3.heap.size,2,none⟩=some (.int .i64 y.links):=by rw[hb4.cell (p:=⟨w3.heap.size,2,none⟩) (by simp)];exact gG w3 _ _ 2
    have q5:w4.cell? ⟨w3.heap.size,5,none⟩=some (.bool y.closed):=by rw[hb4.cell (p:=⟨w3.heap.size,5,none⟩) (by simp)];exact gG w3 _ _ 5
    have Bt:w3.heap.size<w4.heap.size:=by have:=hb4.size;simp at this;omega
    obtain⟨qb,Qk⟩:∃qb,qb=w3.heap.size:=⟨_,rfl⟩;have hqr:qb≠r:=by omega
    rw[←Qk]at q4 q5 Bt⊢;have HZ:=acr Qk;clear hb4 Qk hz3;go_wp2_with fail;refine(xX.o w4 eT.o).mono ?_;rintro e w5 ⟨rfl,rfl⟩;go_wp2_with fail;refine(X0.o w4 eT.o).mono ?_;rintro e w5 SK;obtain⟨rfl,yC,H_⟩:=SK;have ZP:w5.cell? ⟨qb,2,none⟩=some (.int .i64 y.links):=(yC.cell_ Bt hqr 2).trans q4;have ZQ:w5.cell? ⟨qb,5,none⟩=some (.bool y.closed):=(yC.cell_ Bt hqr 5).trans q5;have IV:qb<w5.heap.size:=by have:=yC.size;omega
    have Gi:=acr (wJ id (-1) y w5 H_ yD.o Qm.o (by omega) hlk);have wZ:acs (bS F w4 r (aK T d n1) (.tuple #[]) (.returned (.tuple #[])) w5):=⟨rfl,yC,H_⟩;clear yC H_ q4 q5;go_wp2_with fail;refine Gi.o.mono ?_;rintro e w6 Le;obtain⟨rfl,Gl,SF⟩:=Le;have q4:w6.cell? ⟨qb,2,none⟩=some (.int .i64 y.links):=(Gl.cell_ IV hqr 2).trans ZP;have q5:w6.cell? ⟨qb,5,none⟩=some (.bool y.closed):=(Gl.cell_ IV hqr 5).trans ZQ;have hz6:qb<w6.heap.size:=by have:=Gl.size;omega
    have FV:acs (bS (Grow F w4 w5) w5 r (bC id (fun x=>{x with links:=x.links+ -1}) (aK T d n1)) (.tuple #[]) (.returned (.tuple #[])) w6):=⟨rfl,Gl,SF⟩;clear Gl SF ZP ZQ;go_wp2_with fail;go_ret;rw[HQ.o];exact(dS.behind HH.o.low eT.o (wZ.o.trans (HH.o.below eT.o acu).low FV.o)).val _
 ·have HQ:acs (bL T ls=((aY T ls).2,T)):=by
   show bL T ls=_;have he:jk T ls=(aY T ls).2:=by unfold jk;rw[if_pos h1]
   unfold bL;rw[he,if_neg h1]
  generalize aY T ls=lk at*;obtain⟨id,e1⟩:=lk;simp only at h1 H1 HQ;have hne:(e1==0)=false:=by simpa using h1
  have hne2:(e1 !=0)=true:=by simpa using h1
  clear h hT hS hE h1;go_enter Tryz.func121,Tryz.ntmps121;go_wp2_with fail;refine H1.o.mono ?_;rintro e w1 ⟨rfl,hb1⟩;have HB1:=acr hb1;clear hb1;go_wp2_with fail;go_ret;exact bS.no HH.o HB1.o HQ.o
end
theorem tT{T:aA}{p:List Nm}{v:Int}(h:sQ T p=v)(hv:v≠0):iC T p=(v,T):=by
 unfold iC;rw[h,if_neg hv]
section
variable{F:Nat→Prop}{r:Nat}{T:aA}
theorem MU{S:Nat→Prop}(a:Option Addr)(n c:Nat)(ls:List Nm)(w:World)(h:jC F w r T)(hT:dZ T)(hS:aT S w a n (ls.map strOf))(hc:n≤c)(mQ:n≤1000000):
  Calls Tryz.prog 47 #[ptr r,.slice a n c] w (bS F w r (iC T ls).2 (.int .i64 (iC T ls).1)):=by
 have hE:(aW T).length≤1000000:=by have:=iT hT;omega
 have hln:ls.length=n:=by have:=hS.length;simpa using this
 have H1:=acr (Aq a n c ls w h hT hE hS);have H3:=acr (fun w1 (hb:Below w.heap.size w w1)=>nP a n c ls w1 (h.below hb acu) hT hE (hS.below hb acu) hc mQ);have H4:=acr (fun w1 (hb:Below w.heap.size w w1) id=>Gj id w1 (h.below hb acu) hT);have H5:=acr (fun w1 (hb:Below w.heap.size w w1) d nm=>kH d nm w1 (h.below hb acu) hE);have HH:=acr h;have HT:=acr hT;have hr0:=h.low r h.own;by_cases h1:(aY T ls).2=0
 ·have DZ:=DY h1;rw[DZ]at h1 H1;have hl2:aG T 0 ls=((aG T 0 ls).1,0):=aaE rfl h1;obtain⟨y,hy⟩:=aaf.1 (gq hT.w ls 0 (fD hT.w) h1);have hue:sQ T ls=if y.kind≠2 then 23 else if (aG T 0 ls).1=0 then 1 else if 0<y.names.length then 24 else 0:=by
   unfold sQ;rw[DZ,if_neg (by rw[h1];simp),dh hy,dX hy]
  obtain⟨id,hid⟩:∃id,id=(aG T 0 ls).1:=⟨_,rfl⟩;rw[←hid]at hl2 hy hue;rw[hl2]at H1;simp only at H1;have Gi:=acr (fun w1 hb=>H4.o w1 hb id);have hlm:uE T id=if y.kind=2 then(y.names.map (·.1),0)else([],23):=by unfold uE;rw[hy]
  rw[hlm]at Gi;by_cases h2:y.kind=2
  ·rw[if_pos h2]at Gi;rw[if_neg (by simpa using h2)]at hue;by_cases h3:ls=[]
   ·have zw:id=0:=by rw[hid,h3];rfl
    rw[if_pos zw]at hue;have hn0:n=0:=by rw[←hln,h3];rfl
    have HQ:=acr (tT hue (by omega));subst hn0;clear h hT hS hE H4 DZ h1 hl2 hue hid hy h2 hlm h3 zw hln hc;go_enter Tryz.func47,Tryz.ntmps47;go_wp2_with fail;refine H1.o.mono ?_;rintro e w1 ⟨rfl,hb1⟩;have HB1:=acr hb1;clear hb1;go_wp2_with fail;refine(Gi.o w1 HB1.o).mono ?_;rintro e w3 ⟨al,cl,rfl,-,-,hb3⟩;have HB3:=acr (HB1.o.trans (hb3.mono HB1.o.size));clear hb3;simp only[List.length_map];go_wp2_with fail;go_ret;exact bS.no HH.o HB3.o HQ.o
   ·have zw:id≠0:=fun e=>by
     obtain⟨d,x,n1,_,_,hx,_,hxn,_,-⟩:=dH hl2 h3;exact(hT.leads d x hx _ (bM hxn)).2 e
    rw[if_neg zw]at hue;have hn0:((n:Int)==0)=false:=by
     have:ls.length≠0:=fun e=>h3 (aad e);simp;omega
    obtain⟨m,hm⟩:∃m,m=y.names.length:=⟨_,rfl⟩;have hml:(y.names.map (·.1)).length=m:=by rw[List.length_map,hm]
    rw[←hm]at hue;by_cases h4:0<m
    ·rw[if_pos h4]at hue;have HQ:=acr (tT hue (by omega));have hd4:decide (0<m)=true:=by simpa using h4
     generalize y.names.map (·.1)=L at*;subst hml;clear h hT hS hE H4 DZ h1 hl2 hue hid hy h2 hlm h3 zw hln hc hm;go_enter Tryz.func47,Tryz.ntmps47;go_wp2_with fail;refine H1.o.mono ?_;rintro e w1 ⟨rfl,hb1⟩;have HB1:=acr hb1;clear hb1;go_wp2_with fail;refine(Gi.o w1 HB1.o).mono ?_;rintro e w3 ⟨al,cl,rfl,-,-,hb3⟩;have HB3:=acr (HB1.o.trans (hb3.mono HB1.o.size));clear hb3;go_wp2_with fail;go_ret;exact bS.no HH.o HB3.o HQ.o
    ·rw[if_neg h4]at hue;have hm0:m=0:=by omega
     have hnil:y.names=[]:=aad (by omega);rw[hnil]at Gi;obtain⟨d,x,n1,hp1,hp2,hx,hxk,hxn,hmm,-⟩:=dH hl2 h3;rw[hp1]at H3;simp only at H3;have UJ:id≠d:=fun e=>by rw[e,hx]at hy;cases hy;rw[hnil]at hxn;cases hxn
     have yD:=acr ((vJ.of hT).cut d n1);obtain⟨k,hk,-⟩:=zq (vJ.of hT) hx hxn;have xX:=acr (fun w1 hb=>H5.o w1 hb d n1);rw[hk]at xX;have X0:acs (∀w4,Below w.heap.size w w4→Calls Tryz.prog 115 #[ptr r,.int .i64 k] w4 (bS F w4 r (aK T d n1) (.tuple #[]))):=fun w4 hb=>by
      obtain⟨k',hk',hc'⟩:=Cx d n1 id x w4 (h.below hb acu) (vJ.of hT) hx hxn;rw[hk]at hk';have:k=k':=by omega
      rw[this];exact hc'
     have Qm:acs (aj id (aK T d n1)=some y):=by
      show aj id (aK T d n1)=some y;unfold aK;rw[bf,if_neg UJ];exact hy
     have HNIL:=acr hnil;have HQ:acs (iC T ls=(0,bP id (aK T d n1))):=by
      show iC T ls=_;unfold iC Cg;rw[hue,hp1,←hid];rfl
     clear h hT hS hE H4 H5 DZ h1 hl2 hue hid hy h2 h3 hp1 hp2 hx hxk hxn hmm hk UJ hm0 hnil hml hm h4 hlm hln zw hc;go_enter Tryz.func47,Tryz.ntmps47;go_wp2_with fail;refine H1.o.mono ?_;rintro e w1 ⟨rfl,hb1⟩;have HB1:=acr hb1;clear hb1;go_wp2_with fail;refine(Gi.o w1 HB1.o).mono ?_;rintro e w3 ⟨al,cl,rfl,-,-,hb3⟩;have HB3:=acr (HB1.o.trans (hb3.mono HB1.o.size));clear hb3;simp only[abg,List.length_nil];go_wp2_with fail;refine(H3.o _ HB3.o).mono ?_;rintro e w4 ⟨rfl,hb4⟩;have eT:=acr (HB3.o.trans (hb4.mono HB3.o.size));clear hb4;go_wp2_with fail;refine(xX.o w4 eT.o).mono ?_;rintro e w5 ⟨rfl,rfl⟩;go_wp2_with fail;refine(X0.o w4 eT.o).mono ?_;rintro e w5 SK;obtain⟨rfl,yC,H_⟩:=SK;have F4:=acr (vK id y w5 H_ yD.o.sorted yD.o.len Qm.o HNIL.o);have wZ:acs (bS F w4 r (aK T d n1) (.tuple #[]) (.returned (.tuple #[])) w5):=⟨rfl,yC,H_⟩;clear yC H_;go_wp2_with fail;refine F4.o.mono ?_;rintro e w6 Le;have FV:=acr Le;obtain rfl:=Le.1;clear Le;go_wp2_with fail;go_ret;rw[HQ.o];exact(dS.behind HH.o.low eT.o (wZ.o.trans (HH.o.below eT.o acu).low FV.o)).val _
  ·rw[if_neg h2]at Gi;rw[if_pos h2]at hue;have HQ:=acr (tT hue (by omega));clear h hT hS hE H4 DZ h1 hl2 hue hid hy h2 hlm hln hc;go_enter Tryz.func47,Tryz.ntmps47;go_wp2_with fail;refine H1.o.mono ?_;rintro e w1 ⟨rfl,hb1⟩;have HB1:=acr hb1;clear hb1;go_wp2_with fail;refine(Gi.o w1 HB1.o).mono ?_;rintro e w3 ⟨al,cl,rfl,-,-,hb3⟩;have HB3:=acr (HB1.o.trans (hb3.mono HB1.o.size));clear hb3;simp only[List.length_nil];go_wp2_with fail;go_ret;exact bS.no HH.o HB3.o HQ.o
 ·have HQ:acs (iC T ls=((aY T ls).2,T)):=tT (by unfold sQ;rw[if_pos h1]) h1;generalize aY T ls=lk at*;obtain⟨id,e1⟩:=lk;simp only at h1 H1 HQ;have hne:(e1==0)=false:=by simpa using h1
  have hne2:(e1 !=0)=true:=by simpa using h1
  clear h hT hS hE h1 hln hc;go_enter Tryz.func47,Tryz.ntmps47;go_wp2_with fail;refine H1.o.mono ?_;rintro e w1 ⟨rfl,hb1⟩;have HB1:=acr hb1;clear hb1;go_wp2_with fail;go_ret;exact bS.no HH.o HB1.o HQ.o
end
def UK(F:Nat→Prop)(w:World)(bs:List UInt8)(k:Int)(e:Ending)(w':World):Prop:=
 ∃a n c,e= .returned (.tuple #[.slice a n c,.int .i64 k])∧ah F w a n (bs.map bv)∧w=w'∧n≤c
section
variable{F:Nat→Prop}{r:Nat}{T:aA}
theorem QY(id at_ n:Int)(w:World)(h:jC F w r T)(hT:wP T)(hA:(Lit.int .i64 at_).wf=true)(hN:(Lit.int .i64 n).wf=true):Calls Tryz.prog 106 #[ptr r,.int .i64 id,.int .i64 at_,.int .i64 n] w (UK (Off F r) w (nZ T id at_ n) (FB T id at_ n)):=by
 have HF:=acr (sF id w h hT);have hr0:=h.low r h.own;have hfe:dG T id≠0∨dG T id=0:=by omega
 rcases hfe with h0|h0
 ·have e1:FB T id at_ n=dG T id∧nZ T id at_ n=[]:=by
   unfold FB nZ dG at*;cases hx:aj id T with
   |none=>simp
   |some x=>
    rw[hx]at h0;simp only at h0⊢;by_cases hk:x.kind=2
    ·simp[hk]
    ·rw[if_neg hk]at h0;exact absurd rfl h0
  rw[e1.1,e1.2];generalize dG T id=f at*;have hne:(f==0)=false:=by simpa using h0
  have hne2:(f !=0)=true:=by simpa using h0
  clear h hT e1 h0 hA hN;go_enter acn,ab9;go_wp2_with fail;refine HF.o.mono ?_;rintro e w1 ⟨rfl,rfl⟩;go_wp2_with fail
  go_ret2
  exact⟨none,0,0,rfl,ah.nil _ _ _,rfl,Nat.le_refl _⟩
 ·obtain⟨x,hx,hk⟩:∃x,aj id T=some x∧x.kind≠2:=by
   unfold dG at h0;cases hx:aj id T with
   |none=>rw[hx]at h0;cases h0
   |some x=>
    rw[hx]at h0;exact⟨x,rfl,fun hk=>by simp[hk]at h0⟩
  obtain⟨k,hi,hq⟩:=lC hT.sorted hx;have hrf:JZ T id=k:=by unfold JZ;rw[if_pos h0];exact hi
  rw[hrf,h0]at HF;have e1:FB T id at_ n=A_ at_ n∧nZ T id at_ n=qV x.b at_ n:=by
   unfold FB nZ;rw[hx];exact⟨if_neg hk,if_neg hk⟩
  rw[e1.1,e1.2];obtain⟨b,off,c,a,c',hc1,hO,hb,hcd,hcap,hrow⟩:=h.data (k:=k) (d:=x.b) (by rw[List.getElem?_map,hq];rfl);have hkl:k<T.length:=(aac.1 hq).1;rw[List.length_map]at hc1;have hlen:=hT.len;have hsz:=(hT.each id x hx).size;obtain⟨l,hl⟩:∃l,l=x.b.length:=⟨_,rfl⟩;rw[←hl]at hcd hcap hrow hsz;have hcc:=hcap.1;have i0:(0:Int)≤k:=by omega
  have i1:(k:Int)<T.length:=by omega
  have HR:=acr hrow;have HL:=acr hl;simp[Lit.wf,IntKind.min,IntKind.max,IntKind.signed,IntKind.bits]at hA hN;generalize x.b=bs at*;generalize T.length=tl at*;clear h hT e1 h0 hx hk hi hq hrf hl hrow hcap;unfold A_ qV;by_cases h1:at_<0
  ·rw[if_pos (.inl h1),if_pos (.inl h1)];go_enter acn,ab9;go_wp2_with fail;refine HF.o.mono ?_;rintro e w1 ⟨rfl,rfl⟩;go_wp2_with fail
   go_ret2
   exact⟨none,0,0,rfl,ah.nil _ _ _,rfl,Nat.le_refl _⟩
  ·by_cases h2:n<0
   ·rw[if_pos (.inr h2),if_pos (.inr h2)];go_enter acn,ab9;go_wp2_with fail;refine HF.o.mono ?_;rintro e w1 ⟨rfl,rfl⟩;go_wp2_with fail
    go_ret2
    exact⟨none,0,0,rfl,ah.nil _ _ _,rfl,Nat.le_refl _⟩
   ·rw[if_neg (by omega),if_neg (by omega)];obtain⟨A,rfl⟩:∃A:Nat,at_=A:=⟨at_.toNat,by omega⟩;obtain⟨N,rfl⟩:∃N:Nat,n=N:=⟨n.toNat,by omega⟩;simp only[aa2];have hd1:decide ((A:Int)<0)=false:=by simp
    have hd2:decide ((N:Int)<0)=false:=by simp
    by_cases h3:l≤A
    ·have hd3:decide ((l:Int)≤(A:Int))=true:=by simp;omega
     have hd3':decide (l≤A)=true:=by simpa using h3
     have HE:acs ((bs.drop A).take N=[]):=by
      show(bs.drop A).take N=[];rw[aaC (by have:=HL.o;omega),List.take_nil]
     go_enter acn,ab9;go_wp2_with fail;refine HF.o.mono ?_;rintro e w1 ⟨rfl,rfl⟩;go_wp2_with fail
     go_ret2
     exact⟨none,0,0,rfl,by rw[HE.o];exact ah.nil _ _ _,rfl,Nat.le_refl _⟩
    ·have hd3:decide ((l:Int)≤(A:Int))=false:=by simp;omega
     have hd3':decide (l≤A)=false:=by simpa using h3
     obtain⟨b2,off2,rfl,hO2,hb2,-⟩:=HR.o.at_ (by omega);have hca:¬c'=A:=by omega
     have e1:IntKind.i64.wrap ((l:Int)-(A:Int))=(l:Int)-(A:Int):=aag _ (by omega);have i2:(0:Int)≤(A:Int):=by omega
     have i5:(l:Int)≤(c':Int):=by omega
     by_cases h4:l-A<N
     ·have hd4:decide ((l:Int)-(A:Int)<(N:Int))=true:=by simp;omega
      have e2:IntKind.i64.wrap ((A:Int)+((l:Int)-(A:Int)))=(l:Int):=by rw[show(A:Int)+((l:Int)-(A:Int))=l by omega];exact aag _ (by omega)
      have i3:(A:Int)≤(l:Int):=by omega
      have HE:acs ((bs.drop A).take N=(bs.drop A).take (l-A)):=by
       show(bs.drop A).take N=_;have:=HL.o;rw[List.take_of_length_le (by simp;omega),List.take_of_length_le (by simp;omega)]
      go_enter acn,ab9;go_wp2_with fail;refine HF.o.mono ?_;rintro e w1 ⟨rfl,rfl⟩;go_wp2_with fail
      go_ret2
      refine⟨some ⟨b2,off2+A,none⟩,l-A,_,rfl,?_,rfl,by omega⟩;rw[HE.o,aa3,abW];have:=(HR.o.drop A).take (l-A)
      rwa [Nat.min_self]at this
     ·have hd4:decide ((l:Int)-(A:Int)<(N:Int))=false:=by simp;omega
      have e2:IntKind.i64.wrap ((A:Int)+(N:Int))=(A:Int)+(N:Int):=aag _ (by omega);have i3:(A:Int)≤(A:Int)+(N:Int):=by omega
      have i4:(A:Int)+(N:Int)≤(c':Int):=by omega
      go_enter acn,ab9;go_wp2_with fail;refine HF.o.mono ?_;rintro e w1 ⟨rfl,rfl⟩;go_wp2_with fail
      go_ret2
      refine⟨some ⟨b2,off2+A,none⟩,N,c'-A,?_,?_,rfl,by omega⟩
      ·show Ending.returned (.tuple #[.slice (some ⟨b2,off2+A,none⟩) (A+N-A) (c'-A),.int .i64 0])=_;rw[show A+N-A=N by omega]
      ·rw[aa3,abW];have:=(HR.o.drop A).take N
       rwa [abu (by omega)]at this
end
end Go.Proofs.YtjnhnlabpccgjaaGreatDoor
