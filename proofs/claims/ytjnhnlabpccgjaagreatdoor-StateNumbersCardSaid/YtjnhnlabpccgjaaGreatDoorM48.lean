/-  -/
import Derived.Test.YtjnhnlabpccgjaaGreatDoorM46
import Derived.Test.YtjnhnlabpccgjaaGreatDoorM47
import Derived.Test.YtjnhnlabpccgjaaGreatDoorM40
import Derived.Test.YtjnhnlabpccgjaaGreatDoorM42
import Derived.Test.YtjnhnlabpccgjaaGreatDoorM32
import Derived.Test.YtjnhnlabpccgjaaGreatDoorM43
import Derived.Test.YtjnhnlabpccgjaaGreatDoorM39
import Derived.Test.YtjnhnlabpccgjaaGreatDoorM01
import Derived.BigQuiet
import Derived.Deep.QuietTactic
set_option maxRecDepth 100000
set_option maxHeartbeats 64000000
set_option linter.all false
namespace Go.Proofs.YtjnhnlabpccgjaaGreatDoor
open Go.ChangeShapes Go.WideShapes Go.ChangeAt Go.RowKit
theorem KN(x:jD)(da:Option Addr)(dc:Nat)(w:World):Calls Tryz.prog 27 #[.agg (opC x da dc)] w fun e w'=>e= .returned (.bool (decide (1≤x.kind∧x.kind≤17∧x.kind≠4∧x.kind≠11∧x.kind≠12∧x.kind≠17)))∧Below w.heap.size w w':=by
 obtain⟨kd,pa,dD,fd,at_,nn,aA,sn,dt⟩:=x;unfold opC;by_cases h:kd=4∨kd=11∨kd=12∨kd=17
 ·rcases h with rfl|rfl|rfl|rfl
  all_goals
   go_enter Tryz.func27,Tryz.ntmps27;go_wp2_with fail;go_ret;exact⟨rfl,wall w _⟩
 ·have e4:(kd==4)=false:=by simp;omega
  have e11:(kd==11)=false:=by simp;omega
  have e12:(kd==12)=false:=by simp;omega
  have e17:(kd==17)=false:=by simp;omega
  have HR:acB (decide (1≤kd∧kd≤17∧kd≠4∧kd≠11∧kd≠12∧kd≠17)=(decide (1≤kd)&&decide (kd≤17))):=by
   show _=_;rw[←Bool.decide_and,decide_eq_decide];omega
  rw[HR.o];clear h;obtain⟨b1,h1⟩:∃b,decide (1≤kd)=b:=⟨_,rfl⟩;obtain⟨b2,h2⟩:∃b,decide (kd≤17)=b:=⟨_,rfl⟩;rw[h1,h2];cases b1<;>cases b2
  all_goals
   go_enter Tryz.func27,Tryz.ntmps27;go_wp2_with fail;go_ret;exact⟨rfl,wall w _⟩
abbrev Ten(i:Nat):Nat→Prop:=fun m=>i≤m∧m≤i+9
structure g_(W:World)(o:Mark)(i:Nat)(w:World)(p q:Nat)(c:Int)(M:dS):Prop where
 s:Bt W o i w p c M
 r:kT o (i+5) w q M
section
variable{W w w':World}{o o':Mark}{i p q:Nat}{c:Int}{M M':dS}
theorem g_.grow(h:g_ W o i w p q c M)(hb:Below w.heap.size w w'):g_ W o i w' p q c M:=⟨h.s.grow hb,h.r.grow h.s.marks hb⟩
theorem g_.stepS(h:g_ W o i w p q c M)(hi:0<i){M':dS}{d:Int}(hs:Step o (Five i) w o' w')(hS:Bt W o' i w' p d M'):Bt W o' i w' p d M'∧kT o' (i+5) w' q M:=
 ⟨hS,h.r.step (fun e=>by have:=e.1;omega) (fun e=>by have:=e.2;omega) (fun e=>by have:=e.2;omega) (fun e=>by have:=e.2;omega) hs⟩
theorem VA(i:Nat){m:Nat}(h:Five i m):Ten i m:=⟨h.1,by have:=h.2;omega⟩
theorem Rb(i:Nat){m:Nat}(h:Five (i+5) m):Ten i m:=⟨by have:=h.1;omega,by have:=h.2;omega⟩
def Did14(W:World)(o:Mark)(i:Nat)(w:World)(p q:Nat)(c:Int)(M:dS)(e:Ending)(w':World):Prop:=
 e= .returned (.bool true)∧∃o',Step o (Ten i) w o' w'∧g_ W o' i w' p q c M
theorem zI(h:g_ W o i w p q c M)(hi:0<i)(hc:c≤1000000000)(x:jD)(hx:lY x)(hdl:x.data.length≤1000000)(da:Option Addr)(dc:Nat)(hda:ah (Free o w) w da x.data.length (x.data.map bv))(m:Int)(hm:W.cell? ⟨0,0,none⟩=some (.int .i64 m)):
  Calls Tryz.prog 9 #[ptr p,ptr q,.agg (opC x da dc)] w (Did14 W o i w p q (c+1) (dH M x).2):=by
 obtain⟨w2,hw2⟩:∃w2,w2=w.alloc (.cells (opC x da dc) 30):=⟨_,rfl⟩;have hb2:Below w.heap.size w w2:=by rw[hw2];exact wall w _
 have hbd:Below w.heap.size w w2.drew:=hb2.trans ((Below.refl w2.heap.size w2).drew.mono hb2.size);have hz2:RJ o w2.drew w.heap.size x da dc:=by
  refine⟨?_,aaj fun h9=>by have:=(h.s.marks.new _ h9).2;omega⟩;show w2.heap[w.heap.size]? =_;rw[hw2];exact(MapKept.heap_alloc w _).1
 have HT:=acA (h.grow hbd);have HZ:=acA hz2;have HX:=acA hx;have xS:=acA hdl;have HM:=acA hm;have HW:=acA hw2;have HST:=acA (Step.grow (I:=Ten i) h.s.marks hbd);have jE:=acA (show ah (Free o w2.drew) w2.drew da x.data.length (x.data.map bv)from hda.qG hbd);obtain⟨R,M2,he⟩:∃R M2,dH M x=(R,M2):=⟨_,_,rfl⟩;rw[he];have HE:=acA he;have HC1:=acA (Nb HT.o.s hi hc x hx da dc jE.o m hm (.agg (opC x da dc)) rfl he);obtain⟨z0,z1,z2,z3,z4,z5,z6,z7,z8⟩:=hz2.cells;have HI:=acA hi;have Ez:=acA hc;have HOKM:=acA h.s.ok;unfold opC at HC1 HW;clear h hx hdl hda hm hw2 hb2 hbd hz2 he hi hc;unfold opC;go_enter Tryz.func9,Tryz.ntmps9;go_upto_region 1 with(fail);rw[←HW.o];clear HW;refine yG ((fun w'=>w'.cell? ⟨w.heap.size,0,none⟩=some (.int .i64 x.kind)∧w'.cell? ⟨w.heap.size,1,none⟩=some (.string (strOf x.path))∧w'.cell? ⟨w.heap.size,2,none⟩=some (.string (strOf x.dD))∧w'.cell? ⟨w.heap.size,3,none⟩=some (.int .i64 x.fd)∧w'.cell? ⟨w.heap.size,4,none⟩=some (.int .i64 x.at_)∧w'.cell? ⟨w.heap.size,5,none⟩=some (.int .i64 x.n)∧w'.cell? ⟨w.heap.size,6,none⟩=some (.int .u64 x.aA)∧w'.cell? ⟨w.heap.size,7,none⟩=some (.int .i64 x.snap)∧w'.cell? ⟨w.heap.size,8,none⟩=some (.slice da x.data.length dc))) ?_ fun hS=> ?_
 ·exact⟨z0,z1,z2,z3,z4,z5,z6,z7,z8⟩
 clear z0 z1 z2 z3 z4 z5 z6 z7 z8;refine aP 0 hS ?_;refine aP 1 hS ?_;refine aP 3 hS ?_;refine aP 4 hS ?_;refine qh 2 fun K hK=> ?_;go_simp;refine HC1.o.mono ?_;rintro e w4 ⟨o4,⟨v4,rfl,Av,Aw,Ay,Az,rfl,p1,p2,p3,p4⟩,hs4,oh⟩;obtain⟨hs,hr⟩:=HT.o.stepS HI.o hs4 oh;have h50:¬Five i 0:=fun e=>by have:=e.1;have:=HI.o;omega
 have jk:=acA hs;have HR4:=acA hr;have Oq:=acA (HZ.o.step h50 hs4);have HD4:=acA (jE.o.free h50 hs4);have JR:=acA (HST.o.trans (hs4.mono fun m hm=>VA i hm));have HP3:=acA p3;have HP4:=acA p4;clear hs4 oh p1 p2 p3 p4 HC1 hs hr HT HZ jE HST;go_wp2_with fail;refine pW hK (Oq.o.cells) fun hS=> ?_;clear hK K;have Bo:=acA (Q7 x HX.o (by omega) HR4.o jk.o.marks HOKM.o Ez.o da dc HD4.o xS.o);rw[HE.o]at Bo;unfold opC at Bo;refine qh 5 fun K hK=> ?_;go_simp;refine Bo.o.mono ?_;rintro e w5 ⟨o5,⟨v5,rfl,da5,la5,dc5,lc5,rfl,p1,p2,p3,p4⟩,hs5,EA⟩;have Rc:Step o4 (Five (i+5)) w4 o5 w5:=hs5;have h51:¬Five (i+5) 0:=fun e=>by have:=e.1;omega
 have dB:=acA (jk.o.other HI.o (by omega) (by omega) Rc);have mP:=acA EA;have JM:=acA (Oq.o.step h51 Rc);have HST5:=acA (JR.o.trans (Rc.mono fun m hm=>Rb i hm));have HRP:=acA (Ra R Av Aw da5 la5 Ay Az dc5 lc5 w5 (HP3.o.free h51 Rc) p3 ⟨HP4.o.row.free h51 Rc,HP4.o.short⟩ p4);clear hs5 Rc EA p1 p2 p3 p4 Bo jk HR4 Oq HD4 JR HP3 HP4 h50 h51;go_wp2_with fail;refine pW hK (JM.o.cells) fun hS=> ?_;clear hK K;refine qh 6 fun K hK=> ?_;go_simp;refine HRP.o.mono ?_;rintro e w6 ⟨rfl,hb6⟩;have lg:=acA (dB.o.grow hb6);have Dv:=acA (mP.o.grow dB.o.marks hb6);have HZ6:=acA (JM.o.grow hb6);have HST6:=acA (HST5.o.trans (Step.grow dB.o.marks hb6));have Yo:acB (∀w',Below w6.heap.size w6 w'→w'.cell? ⟨q,2,none⟩=some (.int .u64 M2.now)):=fun w' hb=>by
  obtain⟨t,s,v,h1,-,-,-⟩:=(Dv.o.grow lg.o.marks hb).at_;exact(jK h1).c2
 clear hb6 HRP dB mP JM HST5;go_wp2_with fail;refine pW hK (HZ6.o.cells) fun hS=> ?_;clear hK K;refine jf (S':=fun w'=>(w'.cell? ⟨w.heap.size,0,none⟩=some (.int .i64 x.kind)∧w'.cell? ⟨w.heap.size,1,none⟩=some (.string (strOf x.path))∧w'.cell? ⟨w.heap.size,2,none⟩=some (.string (strOf x.dD))∧w'.cell? ⟨w.heap.size,3,none⟩=some (.int .i64 x.fd)∧w'.cell? ⟨w.heap.size,4,none⟩=some (.int .i64 x.at_)∧w'.cell? ⟨w.heap.size,5,none⟩=some (.int .i64 x.n)∧w'.cell? ⟨w.heap.size,6,none⟩=some (.int .u64 x.aA)∧w'.cell? ⟨w.heap.size,7,none⟩=some (.int .i64 x.snap)∧w'.cell? ⟨w.heap.size,8,none⟩=some (.slice da x.data.length dc))∧w'.cell? ⟨q,2,none⟩=some (.int .u64 M2.now)) (fun _ h=>h.1) _ _ _ _ ?_;have hSx1:=And.intro hS (Yo.o _ acD);clear hS;have hS:=hSx1;clear hSx1;refine aP 7 hS ?_;refine aP 8 hS ?_;refine aP 10 hS ?_;refine aP 11 hS ?_;refine aP 12 hS ?_;refine aP 13 hS ?_;refine qh 9 fun K hK=> ?_;go_simp;refine(XM lg.o).mono ?_;rintro e w7 ⟨rfl,vY⟩;have wZ:=acA vY;clear vY;go_wp2_with fail;refine pW hK (And.intro (HZ6.o.grow wZ.o).cells (Yo.o _ wZ.o)) fun hS=> ?_;clear hK K;refine aP 14 hS ?_;refine aP 15 hS ?_;refine aP 16 hS ?_;refine aP 17 hS ?_;refine aP 19 hS ?_;refine aP 20 hS ?_;refine qh 18 fun K hK=> ?_;go_simp;obtain⟨b,hbb⟩:∃b,b=decide (1≤x.kind∧x.kind≤17∧x.kind≠4∧x.kind≠11∧x.kind≠12∧x.kind≠17):=⟨_,rfl⟩;have htu:=KN x da dc w7;rw[←hbb]at htu;have HTU:=acA htu;have RG:=acA hbb;unfold opC at HTU;clear htu hbb;refine HTU.o.mono ?_;rintro e w8 ⟨rfl,sP⟩;have rD:=acA (wZ.o.trans (sP.mono wZ.o.size));clear sP HTU;go_wp2_with fail;refine pW hK (And.intro (HZ6.o.grow rD.o).cells (Yo.o _ rD.o)) fun hS=> ?_;clear hK K;refine qh 21 fun K hK=> ?_;go_simp;have hrt:=M0 x.kind w8;rw[←RG.o]at hrt;have HRT:=acA hrt;clear hrt;refine HRT.o.mono ?_;rintro e w9 ⟨rfl,cO⟩;have uL:=acA (rD.o.trans (cO.mono rD.o.size));clear cO;clear HRT RG;cases b
 all_goals
  go_wp2_with fail;refine pW hK (And.intro (HZ6.o.grow uL.o).cells (Yo.o _ uL.o)) fun hS=> ?_;clear hK K;refine aP 22 hS ?_;refine aP 23 hS ?_;refine aP 24 hS ?_;refine xW ?_;go_wp2_with fail;go_ret;exact⟨rfl,_,HST6.o.trans (Step.grow lg.o.marks uL.o),lg.o.grow uL.o,Dv.o.grow lg.o.marks uL.o⟩
end
theorem Gp{o:Mark}{w:World}:∀{vs:List Value} {l:List jC},eT o w vs l→(∀x∈l,x.hash.length≤64)→(l.flatMap vk).length≤6000100*l.length
 |_,[],_,_=>by simp
 |_,x::r,⟨v1,v2,h1,h2,h3⟩,hh=>by
  obtain⟨a,c,q,e1,e2,e3,e4,e5⟩:=h2;have k1:=KL e5 (hh x (by simp));have k2:=Gp h3 fun y hy=>hh y (by simp[hy]);rw[List.flatMap_cons,List.length_append,List.length_cons];omega
theorem Ik{W w:World}{o:Mark}{j r:Nat}{T:aL}(h:iJ o j w r T)(hT:dG T):Calls Tryz.prog 35 #[ptr r] w (gP w (gV T)):=by
 obtain⟨F,hF,-,-⟩:=h;exact Gc w hF hT
def snB(S:rE)(k:Nat):List UInt8:=fT S.next 8++sN S.last++fT S.l.length 1++(S.l.take k).flatMap vk
section
variable{W w:World}{o:Mark}{i s:Nat}{S:rE}
theorem BA(hS:gT o i w s S)(hM:Marks W o w)(hv:Ng S):Calls Tryz.prog 37 #[ptr s] w (gP w (kr S)):=by
 obtain⟨la,lc,a,c,vals,h1,h2,h3,h4,h5,h6,h7,h8⟩:=hS.at_;have tX:=hv.few;have hlast:=hv.last;have hnx:=hv.next;have hlen:=Gp h6 fun x hx=>(hv.each x hx).2;have HV:=acA hv.each;have xI:=acA h6;obtain⟨n,hn⟩:∃n,n=S.l.length:=⟨_,rfl⟩;obtain⟨m,hm⟩:∃m,m=S.last.length:=⟨_,rfl⟩;obtain⟨nx,xY⟩:∃nx,nx=S.next:=⟨_,rfl⟩;rw[←hn,←hm,←xY]at h1;rw[←hn]at h4 h5 tX hlen;rw[←hm]at h8 hlast;rw[←xY]at hnx;have HN:=acA hn;have FE:=acA hm;have LX:=acA xY;have iL:=acA h5;have Xy:=acA h8;have EB:acB (∀w',Below w.heap.size w w'→w'.cell? ⟨s,0,none⟩=some (.int .i64 nx)∧w'.cell? ⟨s,1,none⟩=some (.slice la m lc)∧w'.cell? ⟨s,2,none⟩=some (.slice a n c)):=fun w' hb=>by
  have hbb:=(hb.block s h3).trans h1;refine⟨?_,?_,?_⟩<;>simp[World.cell?,hbb]
 have hnx0:0≤nx:=hnx.1;have hnx1:nx≤1000000000:=hnx.2;have ewn:IntKind.u64.wrap nx=nx:=by simp[IntKind.wrap,IntKind.bits,IntKind.signed];omega
 obtain⟨B1,hB1⟩:∃B1,B1=fT nx 8:=⟨_,rfl⟩;have hl1:B1.length=8:=by rw[hB1,bT]
 have Kr:=acA hB1;have zm:acB (∀u:World,Calls Tryz.prog 53 #[.slice none 0 0,.int .u64 nx] u (gP u B1)):=fun u=>by
  have h9:=oC (S:=fun _=>True) none 0 0 [] nx u (ah.nil _ _ _) (by omega) hnx0 (by omega);rw[List.nil_append,←hB1]at h9;exact h9
 have HL1L:=acA hl1;clear hS hM h1 h2 h5 h6 h7 h8 hn hm xY hv hnx hB1 hl1;go_enter Tryz.func37,Tryz.ntmps37;go_wp2_with fail;refine qA 17 ((fun w'=>w'.cell? ⟨s,0,none⟩=some (.int .i64 nx)∧w'.cell? ⟨s,1,none⟩=some (.slice la m lc)∧w'.cell? ⟨s,2,none⟩=some (.slice a n c))) ?_ fun hS=> ?_
 ·exact EB.o _ acD.drew
 refine au 0 hS ?_;refine au 1 hS ?_;refine au 2 hS ?_;refine au 3 hS ?_;refine au 4 hS ?_;refine au 6 hS ?_;refine au 7 hS ?_;refine au 8 hS ?_;refine au 9 hS ?_;refine au 11 hS ?_;refine au 12 hS ?_;refine au 13 hS ?_;refine au 14 hS ?_;refine au 15 hS ?_;refine bB 5 fun K hK=> ?_;go_simp;refine(zm.o _).mono ?_;rintro e w1 ⟨a1,c1,rfl,hown1,hb1⟩;have uO:=acA hown1;have HB1:=acA ((Below.refl w.heap.size w).drew.trans hb1);clear hown1 hb1;go_wp2_with fail;refine bK hK (EB.o _ HB1.o) fun hS=> ?_;clear hK K;refine bB 10 fun K hK=> ?_;go_simp;refine(oZ a1 _ c1 B1 la m lc S.last _ (dF uO.o) (Xy.o.below HB1.o acC) (by have:=HL1L.o;omega) (by omega)).mono ?_;rintro e w2 ⟨a2,c2,rfl,hown2,hb2⟩;obtain⟨B2,hB2⟩:∃B2,B2=B1++(fT m 2++S.last):=⟨_,rfl⟩;rw[←hB2]at hown2⊢;have hl2:B2.length≤80:=by
  rw[hB2];simp only[List.length_append,bT];have:=HL1L.o;have:=FE.o;omega
 have HE2:=acA hB2;have EI:=acA hown2;have HB2:=acA (HB1.o.trans (hb2.mono HB1.o.size));clear hown2 hb2 hB2;go_wp2_with fail;refine bK hK (EB.o _ HB2.o) fun hS=> ?_;clear hK K;refine bB 16 fun K hK=> ?_;go_simp;refine(uD a2 _ c2 B2 n _ (dF EI.o) (by omega) (by omega) (by omega)).mono ?_;rintro e w3 ⟨a3,c3,rfl,hown3,hb3⟩;obtain⟨B3,hB3⟩:∃B3,B3=B2++fT n 1:=⟨_,rfl⟩;rw[←hB3]at hown3⊢;have HE3:acB (B3=snB S 0):=by
  show B3=_;unfold snB sN;rw[hB3,HE2.o,Kr.o,LX.o,FE.o,HN.o];simp
 have GY:=acA (vW hown3 HB2.o.size);have HB3:=acA (HB2.o.trans (hb3.mono HB2.o.size));clear hown3 hb3 hB3 hl2;go_wp2_with fail;refine bK hK (EB.o _ HB3.o) fun hS=> ?_;clear hK K;refine bB 17 fun K hK=> ?_;go_simp;refine kX hK ?_;clear hS hK K;go_wp2_with fail
 go_loopw [3,4] (fun v iv wr=>∃(k:Nat) (X:List UInt8) (a':Option Addr) (c':Nat),iv= .int .i64 k∧k≤n∧X=snB S k∧v= .slice a' X.length c'∧wr.ownsRow w.heap.size 5 1 v X.length (X.map bv)∧Below w.heap.size w wr) (fun _ iv _=>n-(intOf iv).toNat)
 case atStart=>exact⟨0,B3,a3,c3,rfl,Nat.zero_le _,HE3.o,rfl,GY.o,HB3.o⟩
 case round=>
  obtain⟨k,X,a4,c4,rfl,hk,hX,rfl,hown,hb⟩:=hrel;have HX:=acA hX;have HO:=acA hown;have HB:=acA hb;have hXl:X.length≤50000000:=by
   rw[hX];unfold snB;have h9:((S.l.take k).flatMap vk).length≤(S.l.flatMap vk).length:=by
    conv=>rhs;rw[←abg k S.l,aaX,List.length_append]
    omega
   have:=FE.o;simp only[List.length_append,bT,nK];omega
  obtain⟨q0,q1,q2⟩:=EB.o wr hb;clear hX hown;by_cases hlt:k<n
  ·have hd:decide (k<n)=true:=by simpa using hlt
   obtain⟨x,hx⟩:∃x,S.l[k]? =some x:=⟨S.l[k]'(by rw[←HN.o];exact hlt),List.getElem?_eq_getElem _⟩;obtain⟨g,off,rfl,hgw,_,hcell⟩:=iL.o.at_ (by omega);obtain⟨ha,hcp,q,e0,e1,e2,e3,e4,e5,e6⟩:=xI.o.at_ hx;have hxm:=HV.o x (aax hx);obtain⟨id,hid⟩:∃id,id=x.id:=⟨_,rfl⟩;obtain⟨hl,hhl⟩:∃hl,hl=x.hash.length:=⟨_,rfl⟩;rw[←hid]at e0;rw[←hhl]at e1 e3 e4;have sO:0≤id:=by rw[hid];exact hxm.1.1
   have hid1:id≤1000000000:=by rw[hid];exact hxm.1.2
   have hh64:hl≤64:=by rw[hhl];exact hxm.2
   have HCD:acB (∀w',Below w.heap.size w w'→w'.cell? ⟨s,2,none⟩=some (.slice (some ⟨g,off,none⟩) n c)∧w'.cell? ⟨g,off+k*3,none⟩=some (.int .i64 id)∧w'.cell? ⟨g,off+k*3+1,none⟩=some (.slice ha hl hcp)):=fun w' hb'=>
    ⟨(EB.o w' hb').2.2,(hb'.cell (p:=⟨g,off+k*3,none⟩) hgw.2).trans ((hcell (k*3) (by omega)).trans e0),(hb'.cell (p:=⟨g,off+k*3+1,none⟩) hgw.2).trans ((hcell (k*3+1) (by omega)).trans e1)⟩
   have d2:wr.cell? ⟨g,off+k*3+2,none⟩=some (ptr q):=(hb.cell (p:=⟨g,off+k*3+2,none⟩) hgw.2).trans ((hcell (k*3+2) (by omega)).trans e2);have HHR:acB (ah (Free o w) w ha hl (x.hash.map bv)):=e4;obtain⟨sv,hsv⟩:∃sv,sv=gV x.t:=⟨_,rfl⟩;have hsl:=rV e6;rw[←hsv]at hsl;have K4:acB (Calls Tryz.prog 35 #[ptr q] wr (gP wr sv)):=by rw[hsv];exact Ik (W:=W) (e5.grow hb) e6
   have TQ:=acA hsv;have HXX:=acA hx;have Di:=acA hid;have Zd:=acA hhl;have i0:(0:Int)≤k:=by omega
   have i1:(k:Int)<n:=by omega
   have ewi:IntKind.u64.wrap id=id:=by simp[IntKind.wrap,IntKind.bits,IntKind.signed];omega
   obtain⟨i8,RI⟩:∃i,Tryz.prog.info? 5=some i∧i.zero=some (.int .u8 0)∧i.size=1∧i.bytes=1:=aap (by kernel_rfl);have HI:=acA RI;clear hx hcell e0 e1 e2 e3 e4 e5 e6 hxm hid hhl hsv RI q0 q1 hb;go_wp2_with fail;refine K4.o.mono ?_;rintro e w5 ⟨a5,c5,rfl,hown5,hb5⟩;obtain⟨ns,hns⟩:∃ns,ns=sv.length:=⟨_,rfl⟩;rw[←hns]at hown5 hsl⊢;have RL:=acA hns;have fH:=acA (HB.o.trans (hb5.mono HB.o.size));have JL:=acA (own_below HO.o hb5);have mP:=acA ((ah.pJ hown5).2);have Cn:acB (∀u,Below w5.heap.size w5 u→ah (fun x=>wr.heap.size≤x∧x<w5.heap.size) u a5 ns (sv.map bv)):=fun u h=>mP.o.below h acC;clear hown5 hb5 hns q2 d2;go_wp2_with fail;refine qA 20 ((fun w'=>w'.cell? ⟨s,2,none⟩=some (.slice (some ⟨g,off,none⟩) n c)∧w'.cell? ⟨g,off+k*3,none⟩=some (.int .i64 id)∧w'.cell? ⟨g,off+k*3+1,none⟩=some (.slice ha hl hcp))) ?_ fun hS=> ?_
   ·exact HCD.o _ (fH.o.trans (acD.drew.mono fH.o.size))
   refine au 0 hS ?_;refine au 1 hS ?_;refine au 2 hS ?_;refine au 3 hS ?_;refine au 4 hS ?_;refine au 5 hS ?_;refine au 6 hS ?_;refine au 7 hS ?_;refine au 8 hS ?_;refine au 9 hS ?_;refine au 11 hS ?_;refine au 12 hS ?_;refine au 13 hS ?_;refine au 14 hS ?_;refine au 15 hS ?_;refine au 16 hS ?_;refine au 17 hS ?_;refine au 18 hS ?_;refine bB 10 fun K hK=> ?_;go_simp;refine(oC a4 _ c4 X id _ ((dF JL.o).below (Below.refl w5.heap.size w5).drew acC) (by omega) sO (by omega)).mono ?_;rintro e w6 ⟨a6,c6,rfl,hown6,hb6⟩;obtain⟨B6,hB6⟩:∃B6,B6=X++fT id 8:=⟨_,rfl⟩;rw[←hB6]at hown6⊢;have hl6:B6.length≤50000008:=by
    rw[hB6];simp only[List.length_append,bT];omega
   have HE6:=acA hB6;have RA:=acA hown6;have YL:=acA ((Below.refl w5.heap.size w5).drew.trans hb6);clear hown6 hb6 hB6;go_wp2_with fail;refine bK hK (HCD.o _ (fH.o.trans (YL.o.mono fH.o.size))) fun hS=> ?_;clear hK K;refine bB 19 fun K hK=> ?_;go_simp;refine(oZ a6 _ c6 B6 ha hl hcp x.hash _ (dF RA.o) (HHR.o.below (fH.o.trans (YL.o.mono fH.o.size)) acC) (by omega) (by omega)).mono ?_;rintro e w7 ⟨a7,c7,rfl,qO,vY⟩;obtain⟨B7,EJ⟩:∃B7,B7=B6++(fT hl 2++x.hash):=⟨_,rfl⟩;rw[←EJ]at qO⊢;have hl7:B7.length≤50000100:=by
    rw[EJ];simp only[List.length_append,bT];have:=Zd.o;omega
   have HE7:=acA EJ;have Rz:=acA qO;have YM:=acA (YL.o.trans (vY.mono YL.o.size));clear qO vY EJ hl6;go_wp2_with fail;refine bK hK (HCD.o _ (fH.o.trans (YM.o.mono fH.o.size))) fun hS=> ?_;clear hK K;refine bB 20 fun K hK=> ?_;go_simp;refine kX hK ?_;clear hS hK K;have ews:IntKind.u64.wrap (ns:Int)=(ns:Int):=by simp[IntKind.wrap,IntKind.bits,IntKind.signed];omega
   go_wp2_with fail;refine(oC a7 _ c7 B7 (ns:Int) _ (dF Rz.o) (by omega) (by omega) (by omega)).mono ?_;rintro e w8 ⟨a8,c8,rfl,sV,sP⟩;obtain⟨B8,NY⟩:∃B8,B8=B7++fT (ns:Int) 8:=⟨_,rfl⟩;rw[←NY]at sV⊢;have uW:B8.length≤50000110:=by
    rw[NY];simp only[List.length_append,bT];omega
   have HE8:=acA NY;have HB58:=acA (YM.o.trans (sP.mono YM.o.size));have HBW8:=acA (fH.o.trans (HB58.o.mono fH.o.size));have zL:=acA (vW sV (show w.heap.size≤w7.heap.size from Nat.le_trans fH.o.size YM.o.size));clear sV sP NY hl7;obtain⟨n8,lF⟩:∃n8,n8=B8.length:=⟨_,rfl⟩;rw[←lF]at zL uW⊢;have HN8:=acA lF;clear lF;go_wp2_with (at_builtin;go_loud (refine aS rfl _ _ 28 rfl w.heap.size 5 i8 _ 1 Tryz.underlying28 HI.o.1 HI.o.2.1 HI.o.2.2.1 HI.o.2.2.2 rfl (.slice a8 n8 c8) n8 (B8.map bv) rfl zL.o a5 ns c5 (sv.map bv) rfl (Cn.o _ HB58.o) (eZ _) (by unfold maxLen;omega) (by omega) HBW8.o.size ?_;intro A9 c9 w9 nS Tz _ GX;have TA:=acA nS;have uL:=acA (eG Tz (fun b hb=>bA zL.o b hb) HBW8.o);clear nS Tz GX));go_roundw
   case rel=>
    have e9:snB S (k+1)=B8++sv:=by
     rw[HE8.o,HE7.o,HE6.o,HX.o];unfold snB;rw[Gm HXX.o];unfold vk sN;rw[Di.o,Zd.o,RL.o,TQ.o];simp only[aau]
    have el:(B8++sv).length=n8+ns:=by rw[List.length_append,HN8.o,RL.o]
    refine⟨k+1,B8++sv,A9,c9,by go_num,by omega,e9.symm,by rw[el],?_,uL.o⟩;rw[el,List.map_append];exact TA.o
   case measure=>simp[intOf];omega
  ·have hd:decide (k<n)=false:=by simpa using hlt
   have HE:acB (X=kr S):=by
    show X=_;rw[HX.o];unfold snB kr;rw[List.take_of_length_le (by rw[←HN.o];omega)]
   clear hlt;go_wp2_with fail;go_ret;have h9:=HE.o;rw[←h9];exact⟨a4,c4,rfl,HO.o,HB.o⟩
end
theorem Rf{w:World}{cs:Array Value}{t:TypeId}{x:Value}(h:cs[0]? =some x):(w.alloc (.cells cs t)).cell? ⟨w.heap.size,0,none⟩=some x:=by
 have h9:=(MapKept.heap_alloc w (.cells cs t)).1;simp only[World.cell?,h9];exact h
section
variable{W w:World}{o:Mark}{i p s:Nat}{M:dS}{S:rE}{cc:Int}
theorem KO(hS:gT o i w s S)(uW:S.l.length≤8):Calls Tryz.prog 125 #[ptr s] w fun e w'=>∃q,e= .returned (ptr q)∧Below w.heap.size w w':=by
 obtain⟨iO,Zv⟩:∃j,Tryz.prog.info? 150=some j∧j.zero=some (.agg #[.int .i64 0,.slice none 0 0,.pointer none])∧j.size=3∧j.bytes=40:=aap (by kernel_rfl);obtain⟨la,lc,a,c,vals,h1,h2,h3,h4,h5,h6,h7,h8⟩:=hS.at_;obtain⟨n,hn⟩:∃n,n=S.l.length:=⟨_,rfl⟩;rw[←hn]at h1 h4 h5 uW;have uQ:=acA Zv;have iL:=acA h5;have Ky:=acA h6.one;have HK:acB (∀w',Below w.heap.size w w'→w'.cell? ⟨s,0,none⟩=some (.int .i64 S.next)∧w'.cell? ⟨s,1,none⟩=some (.slice la S.last.length lc)∧w'.cell? ⟨s,2,none⟩=some (.slice a n c)):=fun w' hb=>by
  have h9:=(hb.block s h3).trans h1;refine⟨?_,?_,?_⟩<;>simp[World.cell?,h9]
 clear hS h1 h2 h3 h4 h5 h6 h7 h8 Zv hn;go_enter Tryz.func125,Tryz.ntmps125;go_wp2_with fail;refine qA 16 ((fun w'=>w'.cell? ⟨s,0,none⟩=some (.int .i64 S.next)∧w'.cell? ⟨s,1,none⟩=some (.slice la S.last.length lc)∧w'.cell? ⟨s,2,none⟩=some (.slice a n c))) ?_ fun hS=> ?_
 ·exact HK.o _ acD.drew
 refine au 0 hS ?_;refine au 1 hS ?_;refine au 2 hS ?_;refine au 3 hS ?_;refine au 4 hS ?_;refine au 5 hS ?_;refine au 6 hS ?_;refine au 7 hS ?_;refine au 9 hS ?_;refine au 10 hS ?_;refine au 11 hS ?_;refine au 12 hS ?_;refine bB 8 fun K hK=> ?_;go_simp;have hown0:(w.drew.alloc (.cells #[] 150)).ownsRow w.heap.size 150 3 (.slice (some ⟨w.heap.size,0,none⟩) 0 0) 0 []:=oQ (MapKept.heap_alloc w.drew (.cells #[] 150)).1 (Nat.le_refl w.heap.size);have hb0:Below w.heap.size w (w.drew.alloc (.cells #[] 150)):=acD.drew.trans (wall w.drew _);have ZA:=acA hown0;have HB0:=acA hb0;clear hown0 hb0;refine bK hK (HK.o _ HB0.o) fun hS=> ?_;clear hK K;refine bB 13 fun K hK=> ?_;refine dA (by rfl) (.tmp 11) (.tmp 15) 114 (by rfl) w.heap.size 150 iO _ 3 40 Tryz.underlying114 uQ.o.1 uQ.o.2.1 uQ.o.2.2.1 uQ.o.2.2.2 rfl (by omega) _ 0 [] (by rfl) ZA.o _ n _ vals (by rfl) (iL.o.qG HB0.o) Ky.o (by unfold maxLen;omega) (by omega) HB0.o.size ?_;intro A1 c1 u1 hown hgr hat;have HB1:=acA (eG hgr (bA ZA.o) HB0.o);clear hown hgr hat;refine bK hK (HK.o _ HB1.o) fun hS=> ?_;clear hK K;refine au 14 hS ?_;refine bB 15 fun K hK=> ?_;go_simp;have HB2:=acA (HB1.o.trans ((wall u1 (.cells #[.int .i64 S.next,.slice la S.last.length lc,.slice A1 n c1] 116)).mono HB1.o.size));refine bK hK (HK.o _ HB2.o) fun hS=> ?_;clear hK K;refine bB 16 fun K hK=> ?_;go_simp;refine kX hK ?_;clear hS hK K;go_wp2_with fail;go_ret;exact⟨_,rfl,HB2.o⟩
def Ot(o:Mark)(w:World)(T:aL)(e:Ending)(w':World):Prop:=
 ∃q t,e= .returned (ptr q)∧w'.cell? ⟨q,0,none⟩=some (ptr t)∧iJ o 0 w' t (bL T)∧Below w.heap.size w w'
theorem Ni(hS:kT o i w p M)(hM:Marks W o w)(hT:dG M.t)(uW:M.s.l.length≤8):Calls Tryz.prog 52 #[ptr p] w (Ot o w M.t):=by
 obtain⟨t,s,v,h1,h2,h3,h4⟩:=hS.at_;have hlow:=hS.low;have HK:acB (∀w',Below w.heap.size w w'→w'.cell? ⟨p,0,none⟩=some (ptr t)∧w'.cell? ⟨p,1,none⟩=some (ptr s)∧w'.cell? ⟨p,2,none⟩=some (.int .u64 M.now)):=fun w' hb=>by
  obtain⟨z0,z1,z2,-,-⟩:=jK ((hb.block p hlow).trans h1);exact⟨z0,z1,z2⟩
 have HCM:=acA (fun w' (hb:Below w.heap.size w w')=>vV (h3.grow hb) (hM.grow hb) hT);have Rq:=acA (fun w' (hb:Below w.heap.size w w')=>KO (h2.grow hM hb) uW);have lQ:acB (∀(wz:World) (q q2:Nat),Below w.heap.size w wz→iJ o 0 wz q (bL M.t)→Ot o w M.t (.returned (ptr wz.heap.size)) (wz.alloc (.cells #[ptr q,ptr q2,.int .u64 M.now,.int .i64 0,.int .i64 0,.slice none 0 0,.int .i64 0,.int .i64 0,.slice none 0 0,.int .i64 0,.int .i64 0,.slice none 0 0,.int .i64 0,.int .i64 0,.slice none 0 0,.int .i64 0,.int .i64 0,.slice none 0 0,.int .i64 0,.int .i64 0,.slice none 0 0,.int .i64 0,.int .i64 0,.slice none 0 0,.int .i64 0,.int .i64 0,.slice none 0 0] 66))):=fun wz q q2 hb hq=>⟨_,q,rfl,Rf rfl,hq.grow (wall wz _),hb.trans ((wall wz _).mono hb.size)⟩;clear hS hM hT h1 h2 h3 h4 hlow uW;go_enter Tryz.func52,Tryz.ntmps52;go_wp2_with fail;refine qA 16 ((fun w'=>w'.cell? ⟨p,0,none⟩=some (ptr t)∧w'.cell? ⟨p,1,none⟩=some (ptr s)∧w'.cell? ⟨p,2,none⟩=some (.int .u64 M.now))) ?_ fun hS=> ?_
 ·exact HK.o _ acD.drew
 refine au 0 hS ?_;refine au 1 hS ?_;refine au 2 hS ?_;refine au 3 hS ?_;refine au 5 hS ?_;refine au 6 hS ?_;refine au 7 hS ?_;refine au 8 hS ?_;refine au 10 hS ?_;refine au 11 hS ?_;refine au 12 hS ?_;refine au 13 hS ?_;refine bB 4 fun K hK=> ?_;go_simp;refine(HCM.o w.drew acD.drew).mono ?_;rintro e w1 ⟨q,rfl,hq,hb1⟩;have HB1:=acA ((Below.refl w.heap.size w).drew.trans hb1);have HQ:=acA hq;clear hq hb1;go_wp2_with fail;refine bK hK (HK.o _ HB1.o) fun hS=> ?_;clear hK K;refine bB 9 fun K hK=> ?_;go_simp;refine(Rq.o w1 HB1.o).mono ?_;rintro e w2 ⟨q2,rfl,hb2⟩;have HB2:=acA (HB1.o.trans (hb2.mono HB1.o.size));have Rw:=acA (HQ.o.grow hb2);clear hb2;go_wp2_with fail;refine bK hK (HK.o _ HB2.o) fun hS=> ?_;clear hK K;refine au 14 hS ?_;refine bB 15 fun K hK=> ?_;go_simp;have HF:=acA (lQ.o w2 q q2 HB2.o Rw.o);obtain⟨-,-,-,-,-,hbf⟩:=lQ.o w2 q q2 HB2.o Rw.o;have G9:=acA hbf;clear hbf;refine bK hK (HK.o _ G9.o) fun hS=> ?_;clear hK K;refine bB 16 fun K hK=> ?_;go_simp;refine kX hK ?_;clear hS hK K;go_wp2_with fail;go_ret;exact HF.o
theorem VB(l:List UInt8):∀u∈l.map bv,u.oneCell'=true:=by
 intro u hu;obtain⟨b,-,rfl⟩:=List.mem_map.1 hu;rfl
theorem YN(hS:kT o i w p M)(hM:Marks W o w)(hok:gK cc M)(hv:Ng M.s)(hsl:(kr M.s).length≤60000000):Calls Tryz.prog 15 #[ptr p] w (gP w (kK M)):=by
 obtain⟨i8,hI8⟩:∃j,Tryz.prog.info? 5=some j∧j.zero=some (.int .u8 0)∧j.size=1∧j.bytes=1:=aap (by kernel_rfl);obtain⟨t,s,v,h1,h2,h3,h4⟩:=hS.at_;have hlow:=hS.low;have HK:acB (∀w',Below w.heap.size w w'→w'.cell? ⟨p,1,none⟩=some (ptr s)∧w'.cell? ⟨p,2,none⟩=some (.int .u64 M.now)):=fun w' hb=>by
  obtain⟨z0,z1,z2,-,-⟩:=jK ((hb.block p hlow).trans h1);exact⟨z1,z2⟩
 have Hu:=acA hI8;have HST:=acA (Ni hS hM hok.t.1 hok.s.few);have RD:=acA (fun w' (hb:Below w.heap.size w w')=>BA (h2.grow hM hb) (hM.grow hb) hv);have HCO:=acA hok.t.1.bL;have Ec:=hok.now;obtain⟨T,hTe⟩:∃T,T=gV (bL M.t):=⟨_,rfl⟩;obtain⟨N,hNe⟩:∃N,N=kr M.s:=⟨_,rfl⟩;have hTl:T.length≤6000000:=by rw[hTe];exact Dn hok.t.1.bL
 rw[←hNe]at hsl;have HTE:=acA hTe;have lG:=acA hNe;have HL:acB (kK M=((fT M.now 8++fT T.length 8)++T)++N):=by
  show kK M=_;unfold kK;rw[hTe,hNe]
 clear hS hM hok h1 h2 h3 h4 hI8 hlow hv hTe hNe;go_enter Tryz.func15,Tryz.ntmps15;go_wp2_with fail;refine HST.o.mono ?_;rintro e w1 ⟨q,tq,rfl,hq0,hq,hb1⟩;have HB1:=acA hb1;have K4:=acA (Ik (W:=W) hq HCO.o);rw[←HTE.o]at K4;clear hq hb1 HST;go_wp2_with fail;refine K4.o.mono ?_;rintro e w2 ⟨a2,c2,rfl,hown2,hb2⟩;have HB2:=acA (HB1.o.trans (hb2.mono HB1.o.size));have HR2:=acA (dF hown2);obtain⟨k1,k2⟩:=HK.o w2 HB2.o;have e1:IntKind.u64.wrap (T.length:Int)=(T.length:Int):=by simp[IntKind.wrap,IntKind.bits,IntKind.signed];omega
 clear hown2 hb2 K4 hq0;go_wp2_with fail;refine(oC none 0 0 [] M.now w2 (ah.nil (fun _=>True) _ _) (by omega) (by omega) (by omega)).mono ?_;rintro e w3 ⟨a3,c3,rfl,hown3,hb3⟩;rw[List.nil_append]at hown3⊢;have HB3:=acA (HB2.o.trans (hb3.mono HB2.o.size));have HR23:=acA (HR2.o.below hb3 acC);have HR3:=acA (dF hown3);clear hown3 hb3 k1 k2;go_wp2_with fail;refine(oC a3 _ c3 _ T.length w3 HR3.o (by simp[bT]) (by omega) (by omega)).mono ?_;rintro e w4 ⟨a4,c4,rfl,kL,hb4⟩;have dY:=acA (HB3.o.trans (hb4.mono HB3.o.size));have HR4:=acA (HR23.o.below hb4 acC);obtain⟨L,Zc⟩:∃L,L=fT M.now 8++fT T.length 8:=⟨_,rfl⟩;have VD:w4.ownsRow w.heap.size 5 1 (.slice a4 L.length c4) L.length (L.map bv):=by
  rw[Zc];exact vW kL HB3.o.size
 have hLl:L.length=16:=by rw[Zc];simp[bT]
 rw[←Zc]at HL⊢;have L_:=acA VD;obtain⟨l,hl⟩:∃l,l=L.length:=⟨_,rfl⟩;obtain⟨tl,htl⟩:∃tl,tl=T.length:=⟨_,rfl⟩;rw[←hl]at L_ hLl⊢;rw[←htl]at HR4 hTl⊢;have HLQ:=acA (And.intro hl htl);have HR41:acB (ah (fun b=>w1.heap.size≤b∧b<w2.heap.size) w4 a2 (tl*1) (T.map bv)):=by rw[Nat.mul_one];exact HR4
 have RB:acB (Below w.heap.size w w4.drew):=dY.o.trans (acD.drew.mono dY.o.size);have Zi:acB (w4.drew.ownsRow w.heap.size 5 1 (.slice a4 l c4) l (L.map bv)):=dJ L_.o fun b _ h=>rfl;have hl16:l≤16:=by omega
 clear kL VD hb4 Zc hl htl HR3 HR23 e1 HR4 L_ hLl;have lQ:acB (∀(A:Option Addr) (C m n:Nat) (w':World),m=l+tl→n=N.length→w'.ownsRow w.heap.size 5 1 (.slice A (m+n) C) (m+n) ((L.map bv++T.map bv)++N.map bv)→Below w.heap.size w w'→gP w (kK M) (.returned (.slice A (m+n) C)) w'):=fun A C m n w' hm hn ho hb=>by
  have e:(kK M).length=m+n:=by rw[HL.o,hm,hn,HLQ.o.1,HLQ.o.2];simp[Nat.add_assoc]
  have e2:(kK M).map bv=(L.map bv++T.map bv)++N.map bv:=by rw[HL.o];simp
  refine⟨A,C,by rw[e],?_,hb⟩;rw[e,e2];exact ho
 go_wp2_with fail;refine qA 9 ((fun w'=>w'.cell? ⟨p,1,none⟩=some (ptr s))) ?_ fun hS=> ?_
 ·exact(HK.o _ RB.o).1
 refine au 0 hS ?_;refine au 1 hS ?_;refine au 3 hS ?_;refine au 4 hS ?_;refine au 5 hS ?_;refine au 6 hS ?_;refine bB 2 fun K hK=> ?_;refine dA (by rfl) (.tmp 20) (.tmp 21) 28 (by rfl) w.heap.size 5 i8 _ 1 1 Tryz.underlying28 Hu.o.1 Hu.o.2.1 Hu.o.2.2.1 Hu.o.2.2.2 rfl (by omega) _ l (L.map bv) (by rfl) Zi.o _ tl _ (T.map bv) (by rfl) (HR41.o.below acD.drew acC) (VB T) (by unfold maxLen;omega) (by omega) RB.o.size ?_;intro A5 c5 w5 hown5 hgr5 hat5;have fH:=acA (eG hgr5 (bA Zi.o) RB.o);have JL:=acA hown5;clear hown5 hgr5 hat5;refine bK hK ((HK.o _ fH.o).1) fun hS=> ?_;clear hK K;refine bB 7 fun K hK=> ?_;go_simp;refine(RD.o w5 fH.o).mono ?_;rintro e w6 ⟨a6,c6,rfl,hown6,hb6⟩;have mM:=acA (fH.o.trans (hb6.mono fH.o.size));have RA:=acA (dJ JL.o fun b hb h=>hb6.block b h);have hr6:=dF hown6;rw[←lG.o]at hr6⊢;obtain⟨nl,hnl⟩:∃nl,nl=N.length:=⟨_,rfl⟩;rw[←hnl]at hr6 hsl⊢;have R6:=acA hnl;have Dv:=acA (show ah _ w6 a6 (nl*1) (N.map bv)by rw[Nat.mul_one];exact hr6);clear hown6 hb6 hr6 hnl;go_wp2_with fail;refine bK hK ((HK.o _ mM.o).1) fun hS=> ?_;clear hK K;refine bB 8 fun K hK=> ?_;refine dA (by rfl) (.tmp 22) (.tmp 27) 28 (by rfl) w.heap.size 5 i8 _ 1 1 Tryz.underlying28 Hu.o.1 Hu.o.2.1 Hu.o.2.2.1 Hu.o.2.2.2 rfl (by omega) _ (l+tl) (L.map bv++T.map bv) (by rfl) RA.o _ nl _ (N.map bv) (by rfl) Dv.o (VB N) (by unfold maxLen;omega) (by omega) mM.o.size ?_;intro A7 c7 w7 qO hgr7 hat7;have wZ:=acA (eG hgr7 (bA RA.o) mM.o);have Rz:=acA qO;clear qO hgr7 hat7;refine bK hK ((HK.o _ wZ.o).1) fun hS=> ?_;clear hK K;refine bB 9 fun K hK=> ?_;go_simp;refine kX hK ?_;clear hS hK K;go_wp2_with fail;go_ret;exact lQ.o _ _ _ _ _ rfl R6.o Rz.o wZ.o
end
theorem KP(T:aL)(j:Int):jG (bL T) j≠0:=by
 unfold bL;refine yB _ T j ?_;by_cases h:j∈lJ T
 ·exact .inl h
 ·right;have hn:aj j T=none:=lH.2 fun q hq e=>h (by unfold lJ;exact List.mem_map.2 ⟨q,hq,e⟩);unfold jG;rw[hn];decide
theorem Es:∀(L:List Int) (T:aL),(∀id,jG T id≠0)→L.foldl (fun S id=>(fB S id).2) T=T
 |[],_,_=>rfl
 |a::r,T,h=>by
  rw[List.foldl_cons];have e:(fB T a).2=T:=by unfold fB;exact if_neg (h a)
  rw[e];exact Es r T h
theorem Il(T:aL):bL (bL T)=bL T:=Es _ _ (KP T)
def Im(w:World)(r:Bool)(e:Ending)(w':World):Prop:=e= .returned (.bool r)∧∃q,w'=w.drewN q
theorem Nj{xs ys:List Int}{k:Nat}(hk:k<xs.length)(hk':k<ys.length)(h:xs.take k=ys.take k)(he:xs[k]=ys[k]):xs.take (k+1)=ys.take (k+1):=by
 rw[aah hk,aah hk',h,he]
theorem Rh{S S':Nat→Prop}(a b:Option Addr)(ca cb:Nat)(xs ys:List Int)(w:World)(ha:ah S w a xs.length (xs.map (Value.int .i64)))(hb:ah S' w b ys.length (ys.map (Value.int .i64))):
  Calls Tryz.prog 32 #[.slice a xs.length ca,.slice b ys.length cb] w (Im w (decide (xs=ys))):=by
 have ha1:=ha.small;have hb1:=hb.small;unfold maxLen at ha1 hb1;by_cases hl:xs.length=ys.length
 ·have e1:((xs.length:Int) !=(ys.length:Int))=false:=by simp[hl]
  obtain⟨n,hn⟩:∃n,n=xs.length:=⟨_,rfl⟩;rw[←hn]at hl ha ha1 e1⊢;rw[←hl]at hb hb1 e1⊢;have HA:=acA ha;have HB:=acA hb;have HL:=acA hl;have HN:=acA hn;have e2:((n:Int) !=(n:Int))=false:=by simp
  clear ha hb hl hn e1 hb1;go_enter Tryz.func32,Tryz.ntmps32;go_wp2
  go_loopw [5] (fun i wr=>∃k q:Nat,k≤n∧i= .int .i64 k∧wr=w.drewN q∧acB (xs.take k=ys.take k)) (fun i _=>n-(intOf i).toNat)
  case atStart=>exact⟨0,0,by omega,rfl,rfl,show _=_ by simp⟩
  case round=>
   obtain⟨k,q,hk,rfl,rfl,hT⟩:=hrel;by_cases hlt:k<n
   ·obtain⟨b1,o1,rfl,_,_,hc1⟩:=HA.o.at_ (by omega);obtain⟨b2,o2,rfl,_,_,hc2⟩:=HB.o.at_ (by omega);have hx:k<xs.length:=by rw[←HN.o];exact hlt
    have hy:k<ys.length:=by rw[←HL.o];exact hlt
    have g1:w.cell? ⟨b1,o1+k,none⟩=some ((Value.int .i64) xs[k]):=by rw[hc1 k hlt,List.getElem?_map,List.getElem?_eq_getElem hx];rfl
    have g2:w.cell? ⟨b2,o2+k,none⟩=some ((Value.int .i64) ys[k]):=by rw[hc2 k hlt,List.getElem?_map,List.getElem?_eq_getElem hy];rfl
    have i0:(0:Int)≤(k:Int):=by omega
    have i1:(k:Int)<(n:Int):=by omega
    clear hc1 hc2;have HX:=fun h=>Nj hx hy hT.o h;by_cases heq:xs[k]=ys[k]
    ·have NZ:=acA (HX heq);have e3:(xs[k] !=ys[k])=false:=by simp[heq]
     clear HX;generalize xs[k]=x at g1 e3 heq;generalize ys[k]=y at g2 e3 heq;have HEQ:=acA heq;clear heq;go_wp2
     go_quiet (fail)
     go_wp2;go_roundw
     case rel=>exact⟨k+1,_,by omega,by go_num,rfl,NZ⟩
     case measure=>simp[intOf];omega
    ·have hne:xs≠ys:=fun h=>heq (by subst h;rfl);have e3:(xs[k] !=ys[k])=true:=by simp;exact heq
     have lG:=acA hne;clear HX hne;generalize xs[k]=x at g1 e3 heq;generalize ys[k]=y at g2 e3 heq;have HEQ:=acA heq;clear heq;go_wp2
     go_quiet (fail)
     go_wp2;go_ret;exact⟨gU (by simp[lG.o]),_,World.drewN_drewN _ _ _⟩
   ·obtain rfl:k=n:=by omega
    have he:xs=ys:=by
     have:=hT.o;rw[List.take_of_length_le (by rw[←HN.o];omega),List.take_of_length_le (by rw[←HL.o];omega)]at this;exact this
    have HE:=acA he;clear he;go_wp2;go_ret;exact⟨gU (by simp[HE.o]),_,rfl⟩
 ·have e1:((xs.length:Int) !=(ys.length:Int))=true:=by simp;omega
  have hne:xs≠ys:=fun h=>hl (by rw[h]);have lG:=acA hne;clear hne hl ha hb;go_enter Tryz.func32,Tryz.ntmps32;go_wp2;go_ret;exact⟨gU (by simp[lG.o]),0,rfl⟩
theorem Ri{S S':Nat→Prop}(a b:Option Addr)(n ca cb:Nat)(xs:List Int)(w:World)(ha:ah S w a n (xs.map (Value.int .i64)))(hb:ah S' w b n (xs.map (Value.int .i64))):
  Calls Tryz.prog 32 #[.slice a n ca,.slice b n cb] w (Im w true):=by
 have hl:xs.length=n:=by have:=ha.length;simpa using this
 subst hl;have:=Rh a b ca cb xs xs w ha hb
 rwa [show decide (xs=xs)=true by simp]at this
end Go.Proofs.YtjnhnlabpccgjaaGreatDoor
