/- package -/
import Derived.Test.YtmflaonodghbcaaGreatDoorM26
import Derived.Test.YtmflaonodghbcaaGreatDoorM19
import Derived.Test.YtmflaonodghbcaaGreatDoorM15
import Derived.Test.YtmflaonodghbcaaGreatDoorM21
import Derived.Test.YtmflaonodghbcaaGreatDoorM18
set_option maxRecDepth 100000
set_option maxHeartbeats 64000000
set_option linter.all false
namespace Go.Proofs.YtmflaonodghbcaaGreatDoor
open Go.ChangeShapes Go.WideShapes Go.ChangeAt Go.RowKit
def kF(x:lU):List UInt8:=bA x.id 8++oO x.hash++bA (f_ x.t).length 8++f_ x.t
def gH(S:rH):List UInt8:=bA S.next 8++oO S.last++bA S.l.length 1++S.l.flatMap kF
structure Lm(S:rH):Prop where
 few:S.l.length≤8
 last:S.last.length≤64
 next:0≤S.next∧S.next≤1000000000
 each:∀x∈S.l,(0≤x.id∧x.id≤1000000000)∧x.hash.length≤64
theorem B_{T:aI}(hT:fu T):(f_ T).length≤6000000:=by
 have h1:=AP hT T (fun q hq=>hq);have h2:=hT.len;unfold f_;rw[List.length_append,ay];omega
theorem Wx{x:lU}(hT:fu x.t)(hh:x.hash.length≤64):(kF x).length≤6000100:=by
 have:=B_ hT;unfold kF;simp only[List.length_append,ay,vo];omega
structure SvW(S:rH):Prop where
 few:S.l.length≤8
 last:S.last.length≤64
 next:0≤S.next∧S.next≤1099511627776
 each:∀x∈S.l,(0≤x.id∧x.id≤1099511627776)∧x.hash.length≤64
theorem Lm.w{S:rH}(h:Lm S):SvW S:=⟨h.few,h.last,⟨h.next.1,by have:=h.next.2;omega⟩,fun x hx=>⟨⟨(h.each x hx).1.1,by have:=(h.each x hx).1.2;omega⟩,(h.each x hx).2⟩⟩
theorem EC{o:Mark}{w:World}:∀{vs:List Value} {l:List lU},Jl o w vs l→(∀x∈l,x.hash.length≤64)→(l.flatMap kF).length≤6000100*l.length
 |_,[],_,_=>by simp
 |_,x::r,⟨v1,v2,h1,h2,h3⟩,hh=>by
  obtain⟨a,c,q,e1,e2,e3,e4,e5⟩:=h2;have k1:=Wx e5 (hh x (by simp));have k2:=EC h3 fun y hy=>hh y (by simp[hy]);rw[aaY,List.length_append,List.length_cons];omega
theorem SG{l:List lU}{k:Nat}{x:lU}(h:l[k]? =some x):(l.take (k+1)).flatMap kF=(l.take k).flatMap kF++kF x:=by
 obtain⟨hk,e⟩:=aaj.1 h;rw[aai hk,abf,e];simp
theorem Gp{o:Mark}{w:World}{vs:List Value}{l:List lU}(h:Jl o w vs l)(hh:∀x∈l,x.hash.length≤64)(h8:l.length≤8)(k:Nat):((l.take k).flatMap kF).length≤50000000:=by
 have:=EC (h.take k) fun x hx=>hh x (aaK hx);have h9:(l.take k).length≤8:=by rw[List.length_take];omega
 omega
def Aside(x:Nat)(v:Value)(lo hi:Nat):Prop:=∀b,lo≤b→b<hi→b≠x∧v.ownBlock≠some b
theorem Aside.more{B x lo hi:Nat}{w w':World}{v v':Value}{bs':List UInt8}(h:Aside x v lo hi)(hm:kD B w x v bs' v' w')(hw:hi≤w.heap.size):Aside x v' lo hi∧∀b,lo≤b→b<hi→w'.heap[b]? =w.heap[b]? :=by
 refine⟨fun b h1 h2=>⟨(h b h1 h2).1,fun h9=> ?_⟩,fun b h1 h2=>hm.2.1.block b (by omega) fun h9=> ?_⟩
 ·rcases hm.2.2 b h9 with h3|h3
  ·exact(h b h1 h2).2 h3
  ·omega
 ·rcases h9 with h3|h3
  ·exact(h b h1 h2).1 h3
  ·exact(h b h1 h2).2 h3
section
variable{W w:World}{o:Mark}{i s:Nat}{S:rH}
theorem Dg(z:Int)(h0:0≤z)(h1:z≤1099511627776):∀w,(convert 3 29 (.int .i64 z)).run Tryz.prog w= .ok (.int .u64 z) w:=fun w=>by
 have hk:Tryz.prog.intKind 29= .u64:=by kernel_rfl
 have:=run_convert_int (P:=Tryz.prog) w 3 29 .i64 z (by rw[abQ];rfl) (by rw[hk];exact Tryz.underlying29);rw[this,hk];have e:IntKind.u64.wrap z=z:=by
  show z%18446744073709551616=z;omega
 rw[e]
theorem Z4{K:aI→Prop}(hK:∀T,K T→OkW T∧∀k x,aj k T=some x→x.names.length≤65535)(hS:oD K o i w s S)(hM:Marks W o w)(hv:SvW S)(htk:∀k,((S.l.take k).flatMap kF).length≤85000000):Calls Tryz.prog 106 #[ptr s] w (DZ w (gH S)):=by
 obtain⟨v,la,lc,vals,h1,h2,h3,h4,h5,h6,h7,h8⟩:=hS.at_;obtain⟨a,c,rfl,hcap⟩:=bG h4;have Ed:=hv.few;obtain⟨-,-,hrow⟩:=ah.mF h4 (by unfold maxLen;omega);have HON:=ab9 h6;have gN:=ab9 hrow;have HLR:=ab9 h8;have Z5:=ab9 h7;have HM:=ab9 hM;have HV:=ab9 hv;have yP:=ab9 htk;have HKK:=ab9 hK;have HH:acd (∀w',Below w.heap.size w w'→w'.cell? ⟨s,0,none⟩=some (.slice a S.l.length c)∧w'.cell? ⟨s,1,none⟩=some (.int .i64 S.next)∧w'.cell? ⟨s,2,none⟩=some (.slice la S.last.length lc)):=fun w' hb=>by
  have:=(hb.block s h3).trans h1;refine⟨?_,?_,?_⟩<;>simp[World.cell?,this]
 have hcn:=Dg S.next hv.next.1 hv.next.2;obtain⟨n,hn⟩:∃n,n=S.l.length:=⟨_,rfl⟩;have HN:=ab9 hn;rw[←hn]at HH hcap Ed;have hll:=hv.last;have hnx:=hv.next;obtain⟨c0,c1,c2⟩:=HH.o w acf;clear hS hM hv htk hK h1 h2 h4 h5 h6 h7 h8 hrow hn;go_enter Tryz.func106,Tryz.ntmps106;go_wp2_with fail;refine(dB _).mono ?_;rintro e w1 ⟨rfl,hW1,hb1⟩;have HW1:=ab9 hW1;have HB1:=ab9 hb1;obtain⟨d0,d1,d2⟩:=HH.o w1 hb1;clear hW1 hb1 c0 c1 c2;go_wp2_with fail;refine(iy HW1.o S.next hnx.1 (by omega) (by simp)).mono ?_;intro e w2 ht2;obtain⟨rfl,x2,hW2,hb2⟩:=b_.more HW1.o HB1.o ht2;have HW2:=ab9 hW2;have HB2:=ab9 hb2;obtain⟨e0,e1,e2⟩:=HH.o w2 hb2;clear ht2 hW2 hb2 d0 d1 d2 HW1;go_wp2_with fail;have hlr:=HLR.o.below HB2.o ace;refine(qM HW2.o la S.last.length lc S.last hlr (fun b hb=>⟨by have:=HW2.o.low;omega,fun h9=>by have:=bC HW2.o.own b h9;omega⟩) Z5.o (by simp[ay]) (by omega)).mono ?_;intro e w3 ht3;obtain⟨rfl,x3,hW3,hb3⟩:=b_.more HW2.o HB2.o ht3;have HW3:=ab9 hW3;have HB3:=ab9 hb3;obtain⟨f0,f1,f2⟩:=HH.o w3 hb3;clear ht3 hW3 hb3 e0 e1 e2 HW2 hlr;go_wp2_with fail;refine(kI HW3.o (n:Int) (by omega) (by omega) (by simp[ay];omega)).mono ?_;intro e w4 ht4;obtain⟨rfl,x4,Np,hb4⟩:=b_.more HW3.o HB3.o ht4;have zm:=ab9 Np;have dh:=ab9 hb4;obtain⟨k0,k1,k2⟩:=HH.o w4 hb4;clear ht4 Np hb4 f0 f1 f2 HW3;obtain⟨pre,hpre⟩:∃pre,pre=[]++bA S.next 8++(bA (S.last.length:Int) 2++S.last)++bA (n:Int) 1:=⟨_,rfl⟩;have hprl:pre.length≤1000:=by rw[hpre];simp[ay];omega
 rw[←hpre]at zm;have HPRE:=ab9 hpre;clear hpre;go_wp2_with fail
 go_loopw [5,6,33] (fun _ _ iv wr=>∃k:Nat,iv= .int .i64 k∧k≤n∧b_ w w.heap.size (pre++(S.l.take k).flatMap kF) wr) (fun _ _ iv _=>n-(intOf iv).toNat)
 case atStart=>exact⟨0,rfl,Nat.zero_le _,x4,by simpa using zm.o,dh.o⟩
 case round=>
  obtain⟨k,rfl,hk,y,hy,hby⟩:=hrel;have HY:=ab9 hy;have Uv:=ab9 hby;have hbl:=yP.o k;clear hy hby;by_cases hlt:k<n
  ·have hd:decide ((k:Int)<(n:Int))=true:=by simpa using hlt
   obtain⟨x,hx⟩:∃x,S.l[k]? =some x:=⟨S.l[k]'(by have:=HN.o;omega),List.getElem?_eq_getElem _⟩;have HRW:=gN.o;rw[←HN.o]at HRW;obtain⟨g,off,rfl,hgw,_,hcell⟩:=HRW.at_ (by omega);obtain⟨ha,hcp,q,r0,r1,r2,r3,r4,r5,r6⟩:=HON.o.at_ hx;have q0:wr.cell? ⟨g,off+k*3,none⟩=some (.int .i64 x.id):=(Uv.o.cell (p:=⟨g,off+k*3,none⟩) hgw.2).trans ((hcell (k*3) (by omega)).trans r0);have q1:wr.cell? ⟨g,off+k*3+1,none⟩=some (.slice ha x.hash.length hcp):=(Uv.o.cell (p:=⟨g,off+k*3+1,none⟩) hgw.2).trans ((hcell (k*3+1) (by omega)).trans r1);have q2:wr.cell? ⟨g,off+k*3+2,none⟩=some (ptr q):=(Uv.o.cell (p:=⟨g,off+k*3+2,none⟩) hgw.2).trans ((hcell (k*3+2) (by omega)).trans r2);have hid:=HV.o.each x (aaI hx);have hci:=Dg x.id hid.1.1 hid.1.2;have hsb:=RY (HKK.o _ r6).1 (HKK.o _ r6).2;have hcb:=Dg ((f_ x.t).length:Int) (by omega) (by omega);have HX:=ab9 hx;have HR4:=ab9 r4;have sZ:=ab9 r5;have G9:=ab9 r6;have i0:(0:Int)≤(k:Int):=by omega
   have i1:(k:Int)<(n:Int):=by omega
   have hs0:=Uv.o.size;clear hx r0 r1 r2 r4 r5 r6 hcell HRW;go_wp2_with fail;have hub:=wall wr (.cells #[.int .i64 x.id,.slice ha x.hash.length hcp,ptr q] 197);have hu1:=(MapKept.heap_alloc wr (.cells #[.int .i64 x.id,.slice ha x.hash.length hcp,ptr q] 197)).1;refine(Wt (sZ.o.grow (Uv.o.trans (Below.mono hub hs0))) (HKK.o _ G9.o).1 (HKK.o _ G9.o).2).mono ?_;rintro e u2 ⟨ba,bn,bc,rfl,hbc,hbr,hb6⟩;have hbl2:bn=(f_ x.t).length:=by have:=hbr.length;simpa using this.symm
   subst hbl2;have hyl:=jf HY.o.own;have hxl:=HY.o.lt;have hu2:=(hb6.block wr.heap.size (by simp)).trans hu1;have hbu:Below wr.heap.size wr u2:=hub.trans (hb6.mono hub.size);have FM:=ab9 (hbr.mono (S':=fun b=>wr.heap.size≤b∧b<u2.heap.size) fun b hb=>⟨Nat.le_trans hub.size hb.1,hb.2⟩);have HAS:acd (Aside w.heap.size y wr.heap.size u2.heap.size):=fun b h1 h2=>⟨by omega,fun h9=>by have:=hyl b h9;omega⟩;have qN:=ab9 (HY.o.below hbu);have oK:=ab9 (Uv.o.trans (hbu.mono hs0));have HU2:=ab9 hu2;have hwu:wr.heap.size<u2.heap.size:=(uh.1 hu2).1;have v0:u2.cell? ⟨wr.heap.size,0,none⟩=some (.int .i64 x.id):=by simp[World.cell?,hu2]
   have v1:u2.cell? ⟨wr.heap.size,1,none⟩=some (.slice ha x.hash.length hcp):=by simp[World.cell?,hu2]
   have hl6:(pre++(S.l.take k).flatMap kF).length≤85001000:=by rw[List.length_append];omega
   obtain⟨b0,hb0⟩:∃b0,b0=pre++(S.l.take k).flatMap kF:=⟨_,rfl⟩;rw[←hb0]at hl6;have HW6':acd (bN w.heap.size u2 w.heap.size y b0):=by rw[hb0];exact qN
   have HBQ:=ab9 hb0;clear hub hu1 hbr hb6 hyl hu2 hbu q0 q1 q2 HY qN hb0;go_wp2_with fail;refine(iy HW6'.o x.id hid.1.1 (by omega) (by omega)).mono ?_;rintro e u3 ⟨rfl,y3,MP⟩;obtain⟨has3,hk3⟩:=HAS.o.more MP ace;have hu3:=(hk3 wr.heap.size ace hwu).trans HU2.o;have sQ:=ab9 MP.1;have jw:=ab9 (oK.o.trans (MP.low HW6'.o));have HAS3:=ab9 has3;have hs3:=MP.2.1.size;have HBR3:=ab9 (FM.o.kept hs3 (fun b hb _=>hk3 b hb.1 hb.2));have v1':u3.cell? ⟨wr.heap.size,1,none⟩=some (.slice ha x.hash.length hcp):=by simp[World.cell?,hu3]
   clear MP has3 hk3 hu3 v0 v1 HW6' FM;go_wp2_with fail;have hhr:=HR4.o.below jw.o ace;refine(qM sQ.o ha x.hash.length hcp x.hash hhr (fun b hb=>⟨by omega,fun h9=>by have:=bC sQ.o.own b h9;omega⟩) (by omega) (by simp[ay];omega) (by omega)).mono ?_;rintro e u4 ⟨rfl,y4,GY⟩;obtain⟨has4,hk4⟩:=HAS3.o.more GY hs3;have hs4:=GY.2.1.size;have Cy:=ab9 GY.1;have nG:=ab9 (jw.o.trans (GY.low sQ.o));have HAS4:=ab9 has4;have HBR4:=ab9 (HBR3.o.kept hs4 (fun b hb _=>hk4 b hb.1 hb.2));clear GY has4 hk4 v1' hhr sQ HBR3;go_wp2_with fail;refine(iy Cy.o ((f_ x.t).length:Int) (by omega) (by omega) (by simp[ay];omega)).mono ?_;rintro e u5 ⟨rfl,y5,Nt⟩;obtain⟨has5,hk5⟩:=HAS4.o.more Nt (by omega);have hs5:=Nt.2.1.size;have KL:=ab9 Nt.1;have sU:=ab9 (nG.o.trans (Nt.low Cy.o));have HBR5:=ab9 (HBR4.o.kept hs5 (fun b hb _=>hk5 b hb.1 hb.2));clear Nt has5 hk5 Cy HBR4;go_wp2_with fail;refine(gF KL.o ba (f_ x.t).length bc (f_ x.t) HBR5.o (by simp[ay];omega) (by omega)).mono ?_;rintro e u6 ⟨rfl,y6,Gf⟩;have YG:=ab9 Gf.1;have CX:=ab9 (sU.o.trans (Gf.low KL.o));clear Gf KL HBR5;go_wp2_with fail;go_roundw
   case rel=>
    refine⟨k+1,by go_num,by omega,y6,?_,CX.o⟩;have h9:=YG.o;rw[HBQ.o]at h9;rw[SG HX.o,kF,oO];simpa only[List.append_assoc]using h9
   case measure=>simp[intOf];omega
  ·have hd:decide ((k:Int)<(n:Int))=false:=by simp;omega
   obtain rfl:k=n:=by omega
   have hkl:S.l.take k=S.l:=List.take_of_length_le (by have:=HN.o;omega);rw[hkl]at HY hbl;go_wp2_with fail;have e:pre++S.l.flatMap kF=gH S:=by
    rw[HPRE.o,HN.o];unfold gH oO;simp
   have hp0:0<(gH S).length:=by unfold gH;rw[List.length_append,List.length_append,List.length_append,ay];omega
   have DK:=ab9 (U7 HY.o (by rw[List.length_append];omega) (by rw[e];exact hp0));rw[e]at DK;clear e hp0;refine DK.o.mono ?_;rintro e u2 ⟨ba,bc,rfl,hown,hb6⟩;have HOW:=ab9 hown;have oK:=ab9 hb6;clear hown hb6;go_wp2_with fail;go_ret;have hs0:=Uv.o.size;exact⟨ba,bc,rfl,RI HOW.o hs0,Uv.o.trans (oK.o.mono hs0)⟩
theorem SH(hS:jR o i w s S)(hM:Marks W o w)(hv:Lm S):Calls Tryz.prog 106 #[ptr s] w (fJ w (gH S)):=by
 obtain⟨v,la,lc,vals,h1,h2,h3,h4,h5,h6,h7,h8⟩:=hS.at_;have h9:=Gp h6 (fun x hx=>(hv.each x hx).2) hv.few;exact(Z4 (K:=fu) (fun T hT=>⟨hT.w,fun k x hx=>by have:=hT.few hx;omega⟩) hS hM hv.w fun k=>by have:=h9 k;omega).mono fun e w' h=>h.ret
end
structure QU where
 id:Int
 kind:Int
 links:Int
 size:Int
 aT:Int
 closed:Bool
def Wy:QU:=⟨0,0,0,0,0,false⟩
def Lp(n:QU):List UInt8:=bA n.id 2++(bA n.kind 1++(bA n.links 2++(bA n.size 2++(bA n.aT 8++uo n.closed))))
def jD(n:QU):Prop:=(n.kind=1∧n.size≤4096∧n.aT≤1099511627776)∨(n.kind=2∧n.size=0∧n.aT=0∧n.closed=true)
instance(n:QU):Decidable (jD n):=by unfold jD;infer_instance
def kG(b:List UInt8):QU×Rd:=
 let a:=bB (b,0) 2
 let k:=bB a.2 1
 let l:=bB k.2 2
 let s:=bB l.2 2
 let t:=bB s.2 8
 let c:=uw t.2
 (⟨a.1,k.1,l.1,s.1,t.1,c.1⟩,c.2)
def bL(b:List UInt8):QU×Int:=if qF (kG b).2=0∧jD (kG b).1 then((kG b).1,0)else(Wy,12)
theorem Lr{s:Rd}(h:qF s=0):s.2=0∧s.1=[]:=by
 unfold qF at h;by_cases h1:s.2=0
 ·by_cases h2:0<s.1.length
  ·rw[if_pos ⟨h1,h2⟩]at h;cases h
  ·exact⟨h1,Pe (by omega)⟩
 ·rw[if_neg (fun hh=>h1 hh.1)]at h;exact absurd h h1
structure SI(n:QU):Prop where
 id:0≤n.id∧n.id≤65535
 kind:0≤n.kind∧n.kind≤255
 links:0≤n.links∧n.links≤65535
 size:0≤n.size∧n.size≤65535
 aT:0≤n.aT∧n.aT≤18446744073709551615
theorem tQ(b:List UInt8):SI (kG b).1:=by
 have e2:(256:Int)^2=65536:=rfl;have e1:(256:Int)^1=256:=rfl;have e8:(256:Int)^8=18446744073709551616:=rfl;unfold kG;dsimp only;refine⟨?_,?_,?_,?_,?_⟩<;>dsimp only
 ·have:=fQ (b,0) 2;omega
 ·have:=fQ (bB (b,0) 2).2 1;omega
 ·have:=fQ (bB (bB (b,0) 2).2 1).2 2;omega
 ·have:=fQ (bB (bB (bB (b,0) 2).2 1).2 2).2 2;omega
 ·have:=fQ (bB (bB (bB (bB (b,0) 2).2 1).2 2).2 2).2 8;omega
theorem Wz{b:List UInt8}(h:qF (kG b).2=0):b=Lp (kG b).1:=by
 obtain⟨h1,h2⟩:=Lr h;unfold kG at h1 h2⊢;dsimp only at h1 h2⊢;obtain⟨f1,f2⟩:=Vt h1;obtain⟨t1,t2,-⟩:=kS f1;obtain⟨s1,s2,-⟩:=kS t1;obtain⟨l1,l2,-⟩:=kS s1;obtain⟨k1,k2,-⟩:=kS l1;obtain⟨a1,a2,-⟩:=kS k1;unfold Lp;dsimp only at a2⊢;rw[h2,aaE]at f2;rw[←f2,←t2,←s2,←l2,←k2];exact a2
theorem SK{n:QU}(h:SI n):kG (Lp n)=(n,([],0)):=by
 have e2:(256:Int)^2=65536:=rfl;have e1:(256:Int)^1=256:=rfl;have e8:(256:Int)^8=18446744073709551616:=rfl;have h1:=h.id;have h2:=h.kind;have h3:=h.links;have h4:=h.size;have h5:=h.aT;unfold kG Lp;dsimp only;rw[eT 2 n.id _ (by omega) (by omega)];dsimp only;rw[eT 1 n.kind _ (by omega) (by omega)];dsimp only;rw[eT 2 n.links _ (by omega) (by omega)];dsimp only;rw[eT 2 n.size _ (by omega) (by omega)];dsimp only;rw[eT 8 n.aT _ (by omega) (by omega)];dsimp only;have:=RZ n.closed [];rw[aaE]at this;rw[this]
theorem ED{b:List UInt8}(h:(bL b).2=0):b=Lp (bL b).1∧jD (bL b).1∧SI (bL b).1:=by
 unfold bL at h⊢;by_cases h1:qF (kG b).2=0∧jD (kG b).1
 ·rw[if_pos h1];exact⟨Wz h1.1,h1.2,tQ b⟩
 ·rw[if_neg h1]at h;cases h
theorem Ls{n:QU}(h:SI n)(hr:jD n):bL (Lp n)=(n,0):=by
 unfold bL;rw[SK h,if_pos ⟨rfl,hr⟩]
def iB:Nat→Rd→Nm→List (Nm×Int)→Option (List (Nm×Int)×Rd)
 |0,s,_,acc=>some (acc,s)
 |k+1,s,last,acc=>
  let a:=aP s
  let b:=bB a.2 2
  if b.2.2≠0∨dO a.1=false∨bytesBefore last a.1=false then none else iB k b.2 a.1 (acc++[(a.1,b.1)])
def Bc(k:Int)(x:eG):QU:=⟨k,x.kind,x.links,x.b.length,x.aT,x.closed⟩
def zT(n:QU)(b:List UInt8)(names:List (Nm×Int)):eG:=⟨n.kind,n.links,n.aT,n.closed,b,names⟩
def iC(s:Rd):Option ((Int×eG)×Rd):=
 let a:=aP s
 let n:=bL a.1
 let b:=aP a.2
 let c:=bB b.2 2
 if n.2≠0∨(b.1.length:Int)≠n.1.size then none else
 if n.1.kind=1 then(if c.1=0 then some ((n.1.id,zT n.1 b.1 []),c.2)else none)else
 match iB c.1.toNat c.2 [] []with
 |none=>none
 |some q=>some ((n.1.id,zT n.1 b.1 q.1),q.2)
def qg:Nat→Rd→Int→aI→Option (aI×Rd)
 |0,s,_,acc=>some (acc,s)
 |k+1,s,last,acc=>(iC s).elim none fun q=>if q.1.1≤last then none else qg k q.2 q.1.1 (acc++[q.1])
theorem qP(s:Rd)(last:Int)(acc:aI):qg 0 s last acc=some (acc,s):=rfl
theorem Ca{k:Nat}{s:Rd}{last:Int}{acc:aI}(h:iC s=none):qg (k+1) s last acc=none:=by
 show(iC s).elim none _=none;rw[h];rfl
theorem qQ{k:Nat}{s:Rd}{last:Int}{acc:aI}{q:(Int×eG)×Rd}(h:iC s=some q):qg (k+1) s last acc=if q.1.1≤last then none else qg k q.2 q.1.1 (acc++[q.1]):=by
 show(iC s).elim none _=_;rw[h];rfl
def parseM(b:List UInt8):Option aI:=
 match qg (bB (b,0) 2).1.toNat (bB (b,0) 2).2 (-1) []with
 |none=>none
 |some q=>if qF q.2=0 then some q.1 else none
theorem WA{n:Nm}(h:dO n=true):bytesBefore [] n=true:=by
 cases n with
 |nil=>simp[dO]at h
 |cons a r=>rfl
structure Hr(k:Int)(x:eG):Prop where
 ok:SI (Bc k x)
 right:jD (Bc k x)
 file:x.kind=1→x.names=[]
 sorted:aO bytesBefore x.names
 good:∀e∈x.names,dO e.1=true
 ids:∀e∈x.names,0≤e.2∧e.2≤65535
 few:x.names.length≤65535
theorem Bd(k:Int)(x:eG):uI k x=Lp (Bc k x):=by
 unfold uI Lp Bc;simp only[List.append_assoc]
theorem EF:∀(k:Nat) (s:Rd) (last:Nm) (acc l:List (Nm×Int)) (s':Rd),iB k s last acc=some (l,s')→s'.2=0→
  s.2=0∧∃m,l=acc++m∧m.length=k∧s.1=m.flatMap MQ++s'.1∧(∀e∈m,dO e.1=true∧(0≤e.2∧e.2≤65535)∧bytesBefore last e.1=true)∧aO bytesBefore m
 |0,s,last,acc,l,s',h,h0=>by
  simp only[iB,aag,aa7]at h;obtain⟨rfl,rfl⟩:=h;exact⟨h0,[],by simp,rfl,rfl,fun e he=>(by cases he),List.Pairwise.nil⟩
 |k+1,s,last,acc,l,s',h,h0=>by
  unfold iB at h;dsimp only at h;split at h
  ·cases h
  ·rename_i hc;obtain⟨e1,m,e2,e3,e4,e5,e6⟩:=EF k _ _ _ _ _ h h0;have g1:dO (aP s).1=true:=by
    cases hg:dO (aP s).1 with
    |true=>rfl
    |false=>exact absurd (.inr (.inl hg)) hc
   have g2:bytesBefore last (aP s).1=true:=by
    cases hg:bytesBefore last (aP s).1 with
    |true=>rfl
    |false=>exact absurd (.inr (.inr hg)) hc
   obtain⟨f1,f2,f3,f4⟩:=kS e1;obtain⟨b1,b2,-⟩:=rT f1;have hp:(256:Int)^2=65536:=rfl;refine⟨b1,((aP s).1,(bB (aP s).2 2).1)::m,by rw[e2,List.append_assoc];rfl,by rw[List.length_cons,e3],?_,fun e he=> ?_,?_⟩
   ·rw[aaY];rw[show MQ ((aP s).1,(bB (aP s).2 2).1)=oO (aP s).1++bA (bB (aP s).2 2).1 2 from rfl,List.append_assoc,List.append_assoc,←e4,←f2];exact b2
   ·rcases aaq.1 he with rfl|he
    ·exact⟨g1,⟨f3,by dsimp only;omega⟩,g2⟩
    ·have:=e5 e he;exact⟨this.1,this.2.1,pQ _ _ _ g2 this.2.2⟩
   ·refine List.Pairwise.cons (fun e he=> ?_) e6;exact(e5 e he).2.2
theorem Cb:∀(m:List (Nm×Int)) (r:List UInt8) (last:Nm) (acc:List (Nm×Int)),(∀e∈m,dO e.1=true∧(0≤e.2∧e.2≤65535)∧bytesBefore last e.1=true)→aO bytesBefore m→
  iB m.length (m.flatMap MQ++r,0) last acc=some (acc++m,(r,0))
 |[],r,last,acc,_,_=>by simp[iB]
 |e::m,r,last,acc,h,hs=>by
  obtain⟨h1,h2,h3⟩:=h e (by simp);have hp:(256:Int)^2=65536:=rfl;have hl:=nU h1;rw[List.length_cons,iB];have e1:aP ((e::m).flatMap MQ++r,0)=(e.1,(bA e.2 2++(m.flatMap MQ++r),0)):=by
   rw[aaY];unfold MQ;rw[List.append_assoc,List.append_assoc];exact m_ _ _ (by omega)
  rw[e1];dsimp only;rw[eT 2 _ _ h2.1 (by omega)];dsimp only;rw[if_neg (by rw[h1,h3];simp)];have hs':=aau.1 hs;rw[Cb m r e.1 _ (fun y hy=>⟨(h y (by simp[hy])).1,(h y (by simp[hy])).2.1,hs'.1 y hy⟩) hs'.2,List.append_assoc];rfl
theorem WB{s s':Rd}{q:Int×eG}(h:iC s=some (q,s'))(h0:s'.2=0):s.2=0∧s.1=kJ q.1 q.2++s'.1∧Hr q.1 q.2:=by
 unfold iC at h;dsimp only at h;split at h
 ·cases h
 ·rename_i hc;have d0:(bL (aP s).1).2=0:=Vh fun hn=>hc (.inl hn);have d1:((aP (aP s).2).1.length:Int)=(bL (aP s).1).1.size:=Vh fun hn=>hc (.inr hn);obtain⟨q1,q2,q3⟩:=ED d0;have hp:(256:Int)^2=65536:=rfl;have hnd:∀l,Bc (bL (aP s).1).1.id (zT (bL (aP s).1).1 (aP (aP s).2).1 l)=(bL (aP s).1).1:=fun l=>by unfold Bc zT;dsimp only;rw[d1]
  by_cases hk:(bL (aP s).1).1.kind=1
  ·rw[if_pos hk]at h;split at h
   ·rename_i hz;simp only[aag,aa7]at h;obtain⟨rfl,rfl⟩:=h;obtain⟨f1,f2,-⟩:=kS h0;obtain⟨b1,b2,-⟩:=rT f1;obtain⟨a1,a2,-⟩:=rT b1;refine⟨a1,?_,by rw[hnd];exact q3,by rw[hnd];exact q2,fun _=>rfl,List.Pairwise.nil,fun e he=>(by cases he),fun e he=>(by cases he),Nat.zero_le _⟩;unfold kJ;rw[Bd,hnd,←q1];unfold zT;rw[hz]at f2;rw[show(([]:List (Nm×Int)).flatMap MQ)=[]from rfl,aaE,List.append_assoc,List.append_assoc,show((([]:List (Nm×Int)).length:Nat):Int)=0 from rfl,←f2,←b2];exact a2
   ·cases h
  ·rw[if_neg hk]at h;split at h
   ·cases h
   ·rename_i p hr;simp only[aag,aa7]at h;obtain⟨rfl,rfl⟩:=h;obtain⟨r1,m,r2,r3,r4,r5,r6⟩:=EF _ _ _ _ p.1 p.2 hr h0;obtain⟨f1,f2,f3,f4⟩:=kS r1;obtain⟨b1,b2,-⟩:=rT f1;obtain⟨a1,a2,-⟩:=rT b1;rw[List.nil_append]at r2;refine⟨a1,?_,by rw[hnd];exact q3,by rw[hnd];exact q2,fun hk'=>absurd hk' hk,by rw[show(zT (bL (aP s).1).1 (aP (aP s).2).1 p.1).names=m from r2];exact r6,fun e he=> ?_,fun e he=> ?_,?_⟩
    ·unfold kJ;rw[Bd,hnd,←q1];unfold zT;dsimp only;rw[r2,r3,List.append_assoc,List.append_assoc,List.append_assoc,←r4,show((bB (aP (aP s).2).2 2).1.toNat:Int)=(bB (aP (aP s).2).2 2).1 by omega,←f2,←b2];exact a2
    ·exact(r5 e (by rw[←r2];exact he)).1
    ·exact(r5 e (by rw[←r2];exact he)).2.1
    ·show p.1.length≤65535;rw[r2,r3];omega
theorem SL{k:Int}{x:eG}(h:Hr k x)(r:List UInt8):iC (kJ k x++r,0)=some ((k,x),(r,0)):=by
 have hp:(256:Int)^2=65536:=rfl;have hsz:x.b.length≤65535:=by have:=h.ok.size.2;unfold Bc at this;dsimp only at this;omega
 have hen:(uI k x).length≤65535:=by unfold uI uo;simp only[List.length_append,ay];omega
 have hfw:=h.few;unfold iC kJ;dsimp only;rw[List.append_assoc,List.append_assoc,List.append_assoc,m_ _ _ hen];dsimp only;rw[Bd,Ls h.ok h.right];dsimp only;rw[m_ _ _ hsz];dsimp only;rw[eT 2 _ _ (by omega) (by omega)];dsimp only;rw[if_neg (by unfold Bc;simp)];by_cases hk:x.kind=1
 ·rw[if_pos (show(Bc k x).kind=1 from hk)];have hn:=h.file hk;rw[hn];simp only[List.length_nil,List.flatMap_nil,List.nil_append,Int.natCast_zero,if_true];unfold zT Bc;dsimp only;rw[←hn]
 ·rw[if_neg (show ¬(Bc k x).kind=1 from hk)];rw[show((x.names.length:Int)).toNat=x.names.length by omega,Cb x.names r [] [] (fun e he=>⟨h.good e he,h.ids e he,WA (h.good e he)⟩) h.sorted];rfl
theorem Ht:∀(k:Nat) (s:Rd) (last:Int) (acc l:aI) (s':Rd),qg k s last acc=some (l,s')→s'.2=0→
  s.2=0∧∃m,l=acc++m∧m.length=k∧s.1=(m.flatMap fun q=>kJ q.1 q.2)++s'.1∧(∀q∈m,Hr q.1 q.2∧last<q.1)∧aO jX m
 |0,s,last,acc,l,s',h,h0=>by
  rw[qP]at h;cases h;exact⟨h0,[],by simp,rfl,rfl,fun e he=>(by cases he),List.Pairwise.nil⟩
 |k+1,s,last,acc,l,s',h,h0=>by
  cases hr:iC s with
  |none=>rw[Ca hr]at h;cases h
  |some q=>
   rw[qQ hr]at h;by_cases hl:q.1.1≤last
   ·rw[if_pos hl]at h;cases h
   ·rw[if_neg hl]at h;obtain⟨e1,m,e2,e3,e4,e5,e6⟩:=Ht k _ _ _ _ _ h h0;obtain⟨b1,b2,b3⟩:=WB (q:=q.1) (s':=q.2) hr e1;refine⟨b1,q.1::m,by rw[e2,List.append_assoc];rfl,by rw[List.length_cons,e3],?_,fun y hy=> ?_,?_⟩
    ·rw[aaY,List.append_assoc,←e4];exact b2
    ·rcases aaq.1 hy with rfl|hy
     ·exact⟨b3,by omega⟩
     ·have:=e5 y hy;exact⟨this.1,by omega⟩
    ·exact List.Pairwise.cons (fun y hy=>aal (e5 y hy).2) e6
theorem EG:∀(m:aI) (r:List UInt8) (last:Int) (acc:aI),(∀q∈m,Hr q.1 q.2∧last<q.1)→aO jX m→
  qg m.length ((m.flatMap fun q=>kJ q.1 q.2)++r,0) last acc=some (acc++m,(r,0))
 |[],r,last,acc,_,_=>by rw[aaE];exact qP _ _ _
 |q::m,r,last,acc,h,hs=>by
  obtain⟨h1,h2⟩:=h q (by simp);have hs':=aau.1 hs;rw[List.length_cons,aaY,List.append_assoc,qQ (SL h1 _),if_neg (show ¬q.1≤last by omega)];dsimp only;rw[EG m r q.1 _ (fun y hy=>⟨(h y (by simp[hy])).1,of_decide_eq_true (hs'.1 y hy)⟩) hs'.2,List.append_assoc];rfl
structure Cc(T:aI):Prop where
 each:∀q∈T,Hr q.1 q.2
 sorted:aO jX T
 few:T.length≤65535
theorem SN{b:List UInt8}{T:aI}(h:parseM b=some T):b=f_ T∧Cc T:=by
 unfold parseM at h;split at h
 ·cases h
 ·rename_i q hr;split at h
  ·rename_i he;cases h;obtain⟨z1,z2⟩:=Lr he;obtain⟨e1,m,e2,e3,e4,e5,e6⟩:=Ht _ _ _ _ q.1 q.2 hr z1;obtain⟨-,f2,f3,f4⟩:=kS e1;have hp:(256:Int)^2=65536:=rfl;rw[List.nil_append]at e2;rw[z2,aaE]at e4;rw[e2];refine⟨?_,fun y hy=>(e5 y hy).1,e6,by omega⟩;unfold f_;rw[e3,show((bB (b,0) 2).1.toNat:Int)=(bB (b,0) 2).1 by omega,←e4];exact f2
  ·cases h
theorem EH{T:aI}(h:Cc T):parseM (f_ T)=some T:=by
 have hp:(256:Int)^2=65536:=rfl;have hf:=h.few;unfold parseM f_;rw[eT 2 _ _ (by omega) (by omega)];dsimp only;have:=EG T [] (-1) [] (fun q hq=>⟨h.each q hq,by have:=(h.each q hq).ok.id.1;unfold Bc at this;dsimp only at this;omega⟩) h.sorted;rw[aaE,List.nil_append]at this;rw[show((T.length:Int)).toNat=T.length by omega,this];rfl
def mG(T:aI)(id:Int):Nat→Int→List Nm→List (List Nm)
 |0,a,p=>if a=id then[p]else[]
 |n+1,a,p=>(if a=id then[p]else[])++(aX T a).flatMap fun e=>mG T id n e.2 (p++[e.1])
theorem tT{T:aI}{id:Int}:∀(n:Nat) (a:Int) (p q:List Nm),q∈mG T id n a p→∃s,q=p++s
 |0,a,p,q,h=>by
  unfold mG at h;split at h
  ·simp only[List.mem_singleton]at h;exact⟨[],by simp[h]⟩
  ·cases h
 |n+1,a,p,q,h=>by
  unfold mG at h;rcases aas.1 h with h|h
  ·split at h
   ·simp only[List.mem_singleton]at h;exact⟨[],by simp[h]⟩
   ·cases h
  ·obtain⟨e,_,he⟩:=List.mem_flatMap.1 h;obtain⟨s,hs⟩:=tT n e.2 _ q he;exact⟨e.1::s,by rw[hs];simp⟩
theorem Bf{T:aI}(hT:OkW T){id:Int}:∀(n:Nat) (a:Int) (p q:List Nm),(aj a T).isSome=true→KP T n a→(q∈mG T id n a p↔∃s,q=p++s∧aG T a s=(id,0))
 |0,a,p,q,ha,hs=>by
  unfold mG;constructor
  ·intro h;split at h
   ·rename_i he;simp only[List.mem_singleton]at h;exact⟨[],by simp[h],by simp[aG,he]⟩
   ·cases h
  ·rintro ⟨s,rfl,hl⟩;cases s with
   |nil=>
    have:a=id:=aaG Prod.fst hl;rw[if_pos this];simp
   |cons m r=>
    obtain⟨x,k,hx,_,hn,_⟩:=o_ hl;have h1:aX T a=[]:=hs;rw[iW hx]at h1;rw[h1]at hn;cases hn
 |n+1,a,p,q,ha,hs=>by
  unfold mG;rw[aas,List.mem_flatMap];constructor
  ·rintro (h|⟨e,he,h⟩)
   ·split at h
    ·rename_i he;simp only[List.mem_singleton]at h;exact⟨[],by simp[h],by simp[aG,he]⟩
    ·cases h
   ·obtain⟨x,hx,hm⟩:=pY he;obtain⟨s,h1,h2⟩:=(Bf hT n e.2 _ q (hT.leads a x hx e hm).1 (hs e he)).1 h;refine⟨e.1::s,by rw[h1];simp,?_⟩;unfold aG;rw[hx];simp only;rw[if_pos (mZ hT hx hm),bI Dx (hT.each a x hx).sorted hm];exact h2
  ·rintro ⟨s,rfl,hl⟩;cases s with
   |nil=>
    have:a=id:=aaG Prod.fst hl;left;rw[if_pos this];simp
   |cons m r=>
    obtain⟨x,k,hx,_,hn,hr⟩:=o_ hl;have he:(m,k)∈aX T a:=by rw[iW hx];exact cZ hn
    exact .inr ⟨(m,k),he,(Bf hT n k _ _ (hT.leads a x hx _ (cZ hn)).1 (hs _ he)).2 ⟨r,by simp,hr⟩⟩
theorem Jo{T:aI}(hT:OkW T)(a:Int):(aX T a).Pairwise fun e e'=>e.1≠e'.1:=by
 unfold aX;cases hx:aj a T with
 |none=>exact List.Pairwise.nil
 |some x=>exact(hT.each a x hx).sorted.apart Dx
theorem Ce{T:aI}(hT:OkW T){id:Int}:∀(n:Nat) (a:Int) (p:List Nm),(mG T id n a p).Nodup
 |0,a,p=>by
  unfold mG;split<;>simp
 |n+1,a,p=>by
  unfold mG;rw[List.nodup_append];refine⟨by split<;>simp,?_,fun q hq q' hq'=> ?_⟩
  ·unfold List.Nodup;rw[List.pairwise_flatMap];refine⟨fun e _=>Ce hT n e.2 _,(Jo hT a).imp fun{e e'} hne q hq q' hq' he=> ?_⟩;obtain⟨s,h1⟩:=tT n e.2 _ q hq;obtain⟨s',h2⟩:=tT n e'.2 _ q' hq';rw[h1,h2,List.append_assoc,List.append_assoc]at he;have:=List.append_cancel_left he;simp only[List.singleton_append,abB]at this;exact hne this.1
  ·split at hq
   ·simp only[List.mem_singleton]at hq;subst hq;obtain⟨e,_,he⟩:=List.mem_flatMap.1 hq';obtain⟨s,h2⟩:=tT n e.2 _ q' he;intro heq;have:=aaG List.length (heq.trans h2);simp at this
   ·cases hq
theorem Hu{T:aI}{dep:Int→Nat}(hT:OkW T)(hd:eH T dep):∀(n:Nat) (d:Int),dep d≤n→bD T d=2→∃q,aG T 0 q=(d,0)
 |n,d,hn,hk=>by
  by_cases h0:d=0
  ·exact⟨[],by rw[h0];rfl⟩
  ·obtain⟨x,hx,hxk⟩:=gT hk;have hc:=hT.counts d x hx h0;rw[((hT.each d x hx).dir hxk).1]at hc;have hpos:0<fF T d:=by omega
   have:∃q∈T,0<cn d q.2:=by
    unfold fF at hpos;cases hall:T.all (fun q=>cn d q.2==0)with
    |false=>
     rw[List.all_eq_false]at hall;obtain⟨q,hq,h1⟩:=hall;exact⟨q,hq,by simp at h1;omega⟩
    |true=>
     rw[List.all_eq_true]at hall;have hz:(T.map fun q=>cn d q.2).sum=0:=by
      have:∀l:aI,(∀q∈l,cn d q.2=0)→(l.map fun q=>cn d q.2).sum=0:=by
       intro l
       induction l with
       |nil=>intro _;rfl
       |cons y r ih=>
        intro hh;rw[List.map_cons,List.sum_cons,hh y (by simp),ih fun q hq=>hh q (by simp[hq])]
      exact this T fun q hq=>by simpa using hall q hq
     omega
   obtain⟨q,hq,hcq⟩:=this;unfold cn at hcq;rw[List.countP_pos_iff]at hcq;obtain⟨e,he,hed⟩:=hcq;simp only[aar]at hed;have hgq:=bI dU hT.sorted hq;have hup:=(hd.up q.1 q.2 hgq e he).2 (by rw[hed];exact hk);rw[hed]at hup
   match n,hn with
   |0,hn=>omega
   |n+1,hn=>
    obtain⟨p,hp⟩:=Hu hT hd n q.1 (by omega) ((eP hgq).trans (mZ hT hgq he));refine⟨p++[e.1],?_⟩;rw[iA,hp,if_pos rfl];unfold aG;rw[hgq];simp only;rw[if_pos (mZ hT hgq he),bI Dx (hT.each _ _ hgq).sorted he];simp only;rw[hed];rfl
open Classical in
noncomputable def pth (T:aI) (d:Int):List Nm:=if h:∃q,aG T 0 q=(d,0)then h.choose else[]
theorem WC{T:aI}{d:Int}(h:∃q,aG T 0 q=(d,0)):aG T 0 (pth T d)=(d,0):=by
 unfold pth;rw[dif_pos h];exact h.choose_spec
noncomputable def QV (T:aI) (id:Int):List (List Nm):=T.flatMap fun d=>(d.2.names.filter fun e=>decide (e.2=id)).map fun e=>pth T d.1++[e.1]
theorem SQ(T:aI)(id:Int):(QV T id).length=fF T id:=by
 unfold QV fF;rw[List.length_flatMap];congr 1;apply aaw;intro q _;rw[List.length_map,cn,List.countP_eq_length_filter]
theorem EI{α:Type}[DecidableEq α]:∀{l m:List α},l.Nodup→m.Nodup→(∀a,a∈l↔a∈m)→l.Perm m
 |[],m,_,_,h=>by
  have:m=[]:=List.eq_nil_iff_forall_not_mem.2 fun a ha=>by have:=(h a).2 ha;cases this
  rw[this]
 |x::r,m,hl,hm,h=>by
  have hx:x∈m:=(h x).1 (by simp);obtain⟨h1,h2⟩:=List.nodup_cons.1 hl;have hp:=List.perm_cons_erase hx;refine List.Perm.trans (List.Perm.cons x (EI h2 (hm.erase x) fun a=> ?_)) hp.symm;rw[hm.mem_erase_iff];constructor
  ·intro ha;exact⟨fun e=>h1 (e▸ha),(h a).1 (by simp[ha])⟩
  ·rintro ⟨hne,ha⟩;rcases aaq.1 ((h a).2 ha)with h3|h3
   ·exact absurd h3 hne
   ·exact h3
theorem Lu{T:aI}(hO:Vi T){id:Int}(h0:id≠0):(mG T id 8 0 []).length=fF T id:=by
 obtain⟨hT,dep,hd⟩:=hO;have hS:KP T 8 0:=hd.shal8 hT 0;have Jp:∀d x,aj d T=some x→∀e∈x.names,aG T 0 (pth T d)=(d,0):=fun d x hx e he=>WC (Hu hT hd (dep d) d ace ((eP hx).trans (mZ hT hx he)));rw[←SQ];refine(EI (Ce hT 8 0 []) ?_ fun q=> ?_).length_eq
 ·unfold QV List.Nodup;rw[List.pairwise_flatMap];refine⟨fun d hdm=> ?_,?_⟩
  ·rw[List.pairwise_map];have hs:=(hT.each _ _ (bI dU hT.sorted hdm)).sorted.apart Dx;refine(abP _ hs).imp fun{e e'} hne he=>hne ?_;have:=List.append_cancel_left he;simpa using this
  ·refine(hT.sorted.apart dU).imp_of_mem fun{d d'} hdm hdm' hne q hq q' hq' he=> ?_;obtain⟨e,he1,rfl⟩:=List.mem_map.1 hq;obtain⟨e',he2,rfl⟩:=List.mem_map.1 hq';have hl:=aaG List.dropLast he;rw[List.dropLast_concat,List.dropLast_concat]at hl;have h1:=Jp d.1 d.2 (bI dU hT.sorted hdm) e (aax.1 he1).1;have h2:=Jp d'.1 d'.2 (bI dU hT.sorted hdm') e' (aax.1 he2).1;rw[hl,h2]at h1;exact hne (aaG Prod.fst h1).symm
 ·rw[Bf hT 8 0 [] q (kY hT) hS];unfold QV;rw[List.mem_flatMap];constructor
  ·rintro ⟨s,hqs,hl⟩;rw[List.nil_append]at hqs;rw[←hqs]at hl;clear hqs;have hs:q≠[]:=fun e=>by
    rw[e]at hl;exact h0 (aaG Prod.fst hl).symm
   obtain⟨d,x,n,-,hl1,hx,hxk,hn,_,e1⟩:=fG hl hs;have hmem:=cZ hn;have h2:=zu hT q.dropLast.length q.dropLast (pth T d) d ace hl1 (Jp d x hx _ hmem) ((eP hx).trans hxk);refine⟨(d,x),cZ hx,List.mem_map.2 ⟨(n,id),aax.2 ⟨hmem,by simp⟩,?_⟩⟩;rw[e1,h2]
  ·rintro ⟨d,hdm,hq⟩;obtain⟨e,he,rfl⟩:=List.mem_map.1 hq;obtain⟨hen,hei⟩:=aax.1 he;simp only[aar]at hei;have hx:=bI dU hT.sorted hdm;refine⟨pth T d.1++[e.1],rfl,?_⟩;rw[iA,Jp d.1 d.2 hx e hen,if_pos rfl];unfold aG;rw[hx];simp only;rw[if_pos (mZ hT hx hen),bI Dx (hT.each _ _ hx).sorted hen];simp only;rw[hei];rfl
def doneN(left:Nm→Bool)(l:List (Nm×Int)):List (Nm×Int):=l.filter fun e=> !left e.1
theorem yh{left:Nm→Bool}{k:Nm}{j:Int}:∀{l:List (Nm×Int)},l.Pairwise (fun e e'=>e.1≠e'.1)→(k,j)∈l→left k=true→(doneN (fun z=>left z&& !decide (z=k)) l).Perm (doneN left l++[(k,j)])
 |[],_,h,_=>by cases h
 |y::r,hp,h,hl=>by
  obtain⟨h1,h2⟩:=aau.1 hp;unfold doneN;rw[List.filter_cons,List.filter_cons];rcases aaq.1 h with h3|h3
  ·subst h3;have hr:r.filter (fun e=> !(left e.1&& !decide (e.1=k)))=r.filter fun e=> !left e.1:=by
    apply List.filter_congr;intro e he;have hne:e.1≠k:=fun hh=>h1 e he hh.symm;simp[hne]
   rw[hr];simp only[decide_true,Bool.not_true,Bool.and_false,Bool.not_false,if_true,hl];rw[if_neg (by decide)];exact(List.perm_append_singleton _ _).symm
  ·have hne:y.1≠k:=h1 (k,j) h3;have ih:=yh h2 h3 hl;unfold doneN at ih;have e1:(!(left y.1&& !decide (y.1=k)))= !left y.1:=by simp[hne]
   rw[e1];cases left y.1 with
   |true=>simpa using ih
   |false=>simpa using ih
theorem Om{left:Nm→Bool}{l:List (Nm×Int)}(h:∀e∈l,left e.1=true):doneN left l=[]:=by
 unfold doneN;rw[List.filter_eq_nil_iff];intro e he;simp[h e he]
theorem SS{left:Nm→Bool}{l:List (Nm×Int)}(h:∀k,left k=false):doneN left l=l:=by
 unfold doneN;rw[abe];intro e _;simp[h e.1]
abbrev rY:=List (Int×Nat)
def jy(C:rY)(j:Int):Nat:=(aj j C).getD 0
def sm(C:rY):Nat:=(C.map (·.2)).sum
def zc(T:aI)(C:rY):Nat:=T.countP fun q=>decide (q.2.kind=2)&&decide (jy C q.1=0)
def Gq(T:aI)(C:rY):Nat:=sm C+65535*zc T C
def nY(C:rY)(k:Int):rY:=bX jX k (jy C k+1) C
theorem kK(C:rY)(k j:Int):jy (nY C k) j=jy C j+if j=k then 1 else 0:=by
 unfold nY;unfold jy;rw[dS];by_cases h:j=k
 ·subst h;rw[if_pos rfl,if_pos rfl];rfl
 ·rw[if_neg h,if_neg h];rfl
theorem qR(x:Int×Nat)(l:rY):sm (x::l)=x.2+sm l:=by unfold sm;rw[List.map_cons,List.sum_cons]
theorem QW(x:Int×Nat):∀l:rY,sm (jq jX x l)=sm l+x.2
 |[]=>by unfold jq;rw[qR];omega
 |y::r=>by
  unfold jq;split
  ·rw[qR,qR];omega
  ·rw[qR,qR,QW x r];omega
theorem Jq(k:Int):∀{C:rY},aO jX C→sm (bM k C)+jy C k=sm C
 |[],_=>rfl
 |y::r,h=>by
  obtain⟨h1,h2⟩:=aau.1 h;by_cases hk:y.1=k
  ·have hn:aj k r=none:=jW.2 fun p hp e=>by
    have:=h1 p hp;rw[hk,e]at this;simp at this
   have e1:bM k (y::r)=bM k r:=by unfold bM;rw[List.filter_cons,if_neg (by simp[hk])]
   have e2:jy (y::r) k=y.2:=by unfold jy;rw[fD,if_pos hk];rfl
   rw[e1,e2,rJ hn,qR];omega
  ·have e1:bM k (y::r)=y::bM k r:=by unfold bM;rw[List.filter_cons,if_pos (by simp[hk])]
   have e2:jy (y::r) k=jy r k:=by unfold jy;rw[fD,if_neg hk]
   have:=Jq k h2;rw[e1,e2,qR,qR];omega
theorem Oo{C:rY}(h:aO jX C)(k:Int):sm (nY C k)=sm C+1:=by
 have:=Jq k h;unfold nY bX;rw[QW];dsimp only;omega
theorem Z6{C:rY}(h:aO jX C)(j:Int):jy C j≤sm C:=by have:=Jq j h;omega
theorem Bg(T:aI)(C:rY)(k:Int):zc T (nY C k)≤zc T C:=by
 unfold zc;apply List.countP_mono_left;intro q _ h;simp only[aa2,aar,kK]at h⊢;exact⟨h.1,by omega⟩
theorem SV{T:aI}{C:rY}{k:Int}{x:eG}(hk:(k,x)∈T)(hx:x.kind=2)(h0:jy C k=0):zc T (nY C k)+1≤zc T C:=by
 obtain⟨l1,l2,rfl⟩:=List.append_of_mem hk;have h1:=Bg l1 C k;have h2:=Bg l2 C k;unfold zc at h1 h2⊢;rw[List.countP_append,List.countP_append,aa9,aa9,if_neg (by simp[kK]),if_pos (by simp[hx,h0])];omega
theorem Z7{T:aI}{C:rY}(h:aO jX C)(k:Int):Gq T (nY C k)≤Gq T C+1:=by
 have h1:=Oo h k;have h2:=Bg T C k;unfold Gq;omega
theorem Z8{T:aI}{C:rY}(h:aO jX C){k:Int}{x:eG}(hk:(k,x)∈T)(hx:x.kind=2)(h0:jy C k=0):Gq T (nY C k)+65535≤Gq T C+1:=by
 have h1:=Oo h k;have h2:=SV hk hx h0;unfold Gq;omega
theorem EJ{C:rY}(h:aO jX C)(k:Int):aO jX (nY C k):=h.bX dU k _
def rC(T:aI):Nat→Int→List Int
 |0,_=>[]
 |n+1,id=>(aX T id).flatMap fun e=>e.2::(if bD T e.2=2 then rC T n e.2 else[])
def Lv(T:aI):Nat→Int→Prop
 |0,id=>aX T id=[]
 |n+1,id=>∀e∈aX T id,(aj e.2 T).isSome=true∧e.2≠0∧(bD T e.2=2→Lv T n e.2)
def gU(T:aI)(C:rY)(n:Nat)(id:Int):Prop:=Lv T n id∧∀k∈rC T n id,bD T k=2→jy C k+(rC T n id).count k≤1
def nk(T:aI)(n:Nat)(e:Nm×Int):List Int:=e.2::(if bD T e.2=2 then rC T n e.2 else[])
def EntOk(T:aI)(n:Nat)(e:Nm×Int):Prop:=(aj e.2 T).isSome=true∧e.2≠0∧(bD T e.2=2→Lv T n e.2)
theorem nu(T:aI)(n:Nat)(id:Int):rC T (n+1) id=(aX T id).flatMap (nk T n):=rfl
structure lM(T:aI)(n:Nat)(C:rY)(D:List (Nm×Int))(C':rY):Prop where
 sorted:aO jX C'
 cnt:∀j,jy C' j=jy C j+(D.flatMap (nk T n)).count j
 ok:∀e∈D,EntOk T n e
 one:∀k∈D.flatMap (nk T n),bD T k=2→jy C' k≤1
theorem lM.nil{T:aI}{n:Nat}{C:rY}(h:aO jX C):lM T n C [] C:=⟨h,fun j=>rfl,fun e he=>(by cases he),fun k hk=>(by cases hk)⟩
theorem lM.perm{T:aI}{n:Nat}{C C':rY}{D D':List (Nm×Int)}(h:lM T n C D C')(hp:D'.Perm D):lM T n C D' C':=
 ⟨h.sorted,fun j=>by rw[h.cnt j,(hp.flatMap_right (nk T n)).count_eq],fun e he=>h.ok e (hp.mem_iff.1 he),fun k hk=>h.one k ((hp.flatMap_right (nk T n)).mem_iff.1 hk)⟩
theorem rZ{T:aI}{n:Nat}(D:List (Nm×Int))(e:Nm×Int):(D++[e]).flatMap (nk T n)=D.flatMap (nk T n)++nk T n e:=by simp
theorem lM.file{T:aI}{n:Nat}{C C':rY}{D:List (Nm×Int)}(h:lM T n C D C'){e:Nm×Int}(h1:(aj e.2 T).isSome=true)(h2:e.2≠0)(hk:bD T e.2≠2):lM T n C (D++[e]) (nY C' e.2):=by
 have he:nk T n e=[e.2]:=by unfold nk;rw[if_neg hk]
 refine⟨EJ h.sorted _,fun j=> ?_,fun y hy=> ?_,fun k hkm hk2=> ?_⟩
 ·rw[kK,h.cnt j,rZ,he,List.count_append,List.count_singleton];by_cases hj:j=e.2
  ·subst hj;simp;omega
  ·simp[hj,aaP hj]
 ·rcases aas.1 hy with hy|hy
  ·exact h.ok y hy
  ·simp only[List.mem_singleton]at hy;subst hy;exact⟨h1,h2,fun hh=>absurd hh hk⟩
 ·rw[rZ,he]at hkm;have hne:k≠e.2:=fun hh=>hk (hh▸hk2);rw[kK,if_neg hne,ab6];rcases aas.1 hkm with hm|hm
  ·exact h.one k hm hk2
  ·simp only[List.mem_singleton]at hm;exact absurd hm hne
theorem lM.dir{T:aI}{n:Nat}{C C' C2:rY}{D:List (Nm×Int)}(h:lM T n C D C'){e:Nm×Int}(h1:(aj e.2 T).isSome=true)(h2:e.2≠0)(hk:bD T e.2=2)(hz:jy C' e.2=0)
  (hs:aO jX C2)(hc:∀j,jy C2 j=jy (nY C' e.2) j+(rC T n e.2).count j)(hL:gU T (nY C' e.2) n e.2):lM T n C (D++[e]) C2:=by
 have he:nk T n e=e.2::rC T n e.2:=by unfold nk;rw[if_pos hk]
 have hce:∀j,jy C2 j=jy C' j+(nk T n e).count j:=fun j=>by
  rw[hc j,kK,he,List.count_cons];by_cases hj:j=e.2
  ·subst hj;simp;omega
  ·simp[hj,aaP hj]
 have hin:∀k∈nk T n e,bD T k=2→jy C2 k≤1:=fun k hkm hk2=>by
  rw[hc k];rw[he]at hkm;by_cases hv:k∈rC T n e.2
  ·exact hL.2 k hv hk2
  ·rcases aaq.1 hkm with hm|hm
   ·subst hm;rw[abE hv,kK,if_pos rfl,hz];exact Nat.le_refl _
   ·exact absurd hm hv
 refine⟨hs,fun j=> ?_,fun y hy=> ?_,fun k hkm hk2=> ?_⟩
 ·rw[rZ,List.count_append,hce j,h.cnt j,Nat.add_assoc]
 ·rcases aas.1 hy with hy|hy
  ·exact h.ok y hy
  ·simp only[List.mem_singleton]at hy;subst hy;exact⟨h1,h2,fun _=>hL.1⟩
 ·by_cases hm:k∈nk T n e
  ·exact hin k hm hk2
  ·rw[rZ]at hkm;rcases aas.1 hkm with hm'|hm'
   ·rw[hce k,abE hm,ab6];exact h.one k hm' hk2
   ·exact absurd hm' hm
theorem lM.all{T:aI}{n:Nat}{C C':rY}{id:Int}(h:lM T n C (aX T id) C'):gU T C (n+1) id∧∀j,jy C' j=jy C j+(rC T (n+1) id).count j:=by
 refine⟨⟨fun e he=>h.ok e he,fun k hk hk2=> ?_⟩,fun j=>h.cnt j⟩;have:=h.one k hk hk2;rw[h.cnt k]at this;exact this
theorem QX{α:Type}(f:α→Nat)(p:α→Bool):∀l:List α,((l.filter p).map f).sum≤(l.map f).sum
 |[]=>Nat.le_refl _
 |x::r=>by
  have:=QX f p r;rw[List.filter_cons];split
  ·rw[List.map_cons,List.map_cons,List.sum_cons,List.sum_cons];omega
  ·rw[List.map_cons,List.sum_cons];omega
theorem EK{T:aI}{n:Nat}{l:List (Nm×Int)}{left:Nm→Bool}{e:Nm×Int}(hp:l.Pairwise fun e e'=>e.1≠e'.1)(he:e∈l)(hl:left e.1=true)(j:Int):
  ((doneN left l).flatMap (nk T n)).count j+(nk T n e).count j≤(l.flatMap (nk T n)).count j:=by
 have h1:=yh (k:=e.1) (j:=e.2) hp he hl;have h2:=(h1.flatMap_right (nk T n)).count_eq j;rw[rZ,List.count_append]at h2;rw[←h2,List.count_flatMap,List.count_flatMap];exact QX _ _ _
theorem Lx{T:aI}{C:rY}{n:Nat}{id:Int}{e:Nm×Int}(he:e∈aX T id)(h:¬((aj e.2 T).isSome=true∧e.2≠0)):¬gU T C (n+1) id:=fun hL=>h ⟨(hL.1 e he).1,(hL.1 e he).2.1⟩
theorem Bh{T:aI}{C:rY}{id:Int}{e:Nm×Int}(he:e∈aX T id):¬gU T C 0 id:=fun hL=>by
 have h1:aX T id=[]:=hL.1;rw[h1]at he;cases he
theorem WE{T:aI}{C C':rY}{n:Nat}{id:Int}{left:Nm→Bool}{e:Nm×Int}(hp:(aX T id).Pairwise fun e e'=>e.1≠e'.1)(he:e∈aX T id)(hl:left e.1=true)(h:lM T n C (doneN left (aX T id)) C')(hk:bD T e.2=2)(h1:1<jy (nY C' e.2) e.2):¬gU T C (n+1) id:=fun hL=>by
 have h2:=EK (T:=T) (n:=n) hp he hl e.2;have h3:=hL.2 e.2 (by rw[nu];exact List.mem_flatMap.2 ⟨e,he,by unfold nk;simp⟩) hk;rw[nu]at h3;rw[kK,if_pos rfl,h.cnt]at h1;have h4:1≤(nk T n e).count e.2:=by unfold nk;rw[List.count_cons];simp
 omega
theorem WG{T:aI}{C C':rY}{n:Nat}{id:Int}{left:Nm→Bool}{e:Nm×Int}(hp:(aX T id).Pairwise fun e e'=>e.1≠e'.1)(he:e∈aX T id)(hl:left e.1=true)(h:lM T n C (doneN left (aX T id)) C')(hk:bD T e.2=2)(h1:¬gU T (nY C' e.2) n e.2):¬gU T C (n+1) id:=fun hL=>by
 refine h1 ⟨(hL.1 e he).2.2 hk,fun k hkv hk2=> ?_⟩;have h2:=EK (T:=T) (n:=n) hp he hl k;have he':nk T n e=e.2::rC T n e.2:=by unfold nk;rw[if_pos hk]
 have h3:=hL.2 k (by rw[nu];exact List.mem_flatMap.2 ⟨e,he,by rw[he'];simp[hkv]⟩) hk2;rw[nu]at h3;rw[he',List.count_cons]at h2;rw[kK,h.cnt];by_cases hj:k=e.2
 ·subst hj;simp only[beq_self_eq_true,if_true]at h2⊢;omega
 ·rw[if_neg hj];omega
def ny(T:aI):Prop:=bD T 0=2∧T.length≤64∧gU T [(0,1)] 8 0∧∀q∈T,(((if q.1=0 then 1 else 0)+(rC T 8 0).count q.1:Nat):Int)=q.2.links∧¬(q.2.links=0∧q.2.closed=true)
theorem LA(j:Int):jy [(0,1)] j=if j=0 then 1 else 0:=by
 unfold jy;rw[fD];by_cases h:(0:Int)=j
 ·rw[if_pos h,if_pos h.symm];rfl
 ·rw[if_neg h,if_neg (aaP h)];rfl
theorem fH.ptree{T:aI}(hT:fu T):Cc T:=by
 refine⟨fun q hq=> ?_,hT.sorted,by have:=hT.len;omega⟩;have hx:=bI dU hT.sorted hq;have O:=hT.each _ _ hx;have hi:=hT.ids _ _ hx;have hl:=O.links;have ht:=O.aT;have hs:=O.size;refine⟨⟨hi,?_,?_,?_,?_⟩,?_,O.file,O.sorted,O.good,fun e he=> ?_,by have:=hT.few hx;omega⟩
 ·show 0≤q.2.kind∧q.2.kind≤255;rcases O.kind with h|h<;>omega
 ·show 0≤q.2.links∧q.2.links≤65535;omega
 ·show 0≤(q.2.b.length:Int)∧(q.2.b.length:Int)≤65535;omega
 ·show 0≤q.2.aT∧q.2.aT≤18446744073709551615;omega
 ·rcases O.kind with h|h
  ·exact .inl ⟨h,by show(q.2.b.length:Int)≤4096;omega,ht.2⟩
  ·have hd:=O.dir h;refine .inr ⟨h,?_,hd.2.2.2,hd.2.1⟩;show(q.2.b.length:Int)=0;rw[hd.2.2.1];rfl
 ·obtain⟨y,hy⟩:=aak.1 (hT.leads _ _ hx e he).1;exact hT.ids _ _ hy
theorem eH.vis{T:aI}{dep:Int→Nat}(h:eH T dep)(hT:fu T):∀(n:Nat) (d:Int),8≤n+dep d→Lv T n d
 |0,d,hd=>by
  show aX T d=[];cases hn:aX T d with
  |nil=>rfl
  |cons e r=>
   obtain⟨x,hx,he⟩:=pY (T:=T) (id:=d) (e:=e) (by rw[hn];simp);have:=(h.up d x hx e he).1;omega
 |n+1,d,hd=>fun e he=>by
  obtain⟨x,hx,he⟩:=pY he;have hl:=hT.leads d x hx e he;exact⟨hl.1,hl.2,fun hk=>h.vis hT n e.2 (by have:=(h.up d x hx e he).2 hk;omega)⟩
theorem LB{T:aI}:∀(n:Nat) (a:Int),Lv T n a→(0:Int)∉rC T n a
 |0,a,_=>by unfold rC;simp
 |n+1,a,h=>by
  rw[nu,List.mem_flatMap];rintro ⟨e,he,hm⟩;obtain⟨h1,h2,h3⟩:=h e he;unfold nk at hm;rcases aaq.1 hm with hm|hm
  ·exact h2 hm.symm
  ·split at hm
   ·rename_i hk;exact LB n e.2 (h3 hk) hm
   ·cases hm
theorem Oq{T:aI}(hT:fu T){a:Int}(h:bD T a≠2):aX T a=[]:=by
 unfold aX;unfold bD at h;cases hx:aj a T with
 |none=>rfl
 |some x=>
  rw[hx]at h;exact(hT.each a x hx).file ((hT.each a x hx).kind.resolve_right h)
theorem Hw{T:aI}(hT:fu T)(k:Int):∀(n:Nat) (a:Int) (p:List Nm),(rC T n a).count k+(if a=k then 1 else 0)=(mG T k n a p).length
 |0,a,p=>by
  unfold rC mG;split<;>simp
 |n+1,a,p=>by
  rw[nu];unfold mG;rw[List.length_append,List.count_flatMap,List.length_flatMap];have h1:(if a=k then[p]else[]).length=if a=k then 1 else 0:=by split<;>rfl
  rw[h1,Nat.add_comm];congr 1;congr 1;apply aaw;intro e he;rw[←Hw hT k n e.2 (p++[e.1])];show(nk T n e).count k=_;unfold nk;rw[List.count_cons];have h2:(if bD T e.2=2 then rC T n e.2 else[])=rC T n e.2:=by
   split
   ·rfl
   ·rename_i hk;cases n with
    |zero=>rfl
    |succ n=>
     rw[nu,Oq hT hk];rfl
  rw[h2];by_cases h3:e.2=k<;>simp[h3]
theorem Ot{T:aI}(hO:fH T):ny T:=by
 have hO':=hO;obtain⟨hT,dep,hd⟩:=hO;have hv:=hd.vis hT 8 0 (by omega);have h0:=LB 8 0 hv;have hcnt:∀k,k≠0→(rC T 8 0).count k=fF T k:=fun k hk=>by
  have:=Hw hT k 8 0 [];rw[if_neg (aaP hk),ab6,Lu hO' hk]at this;exact this
 refine⟨hT.root,hT.len,⟨hv,fun k hk hk2=> ?_⟩,fun q hq=> ?_⟩
 ·have hk0:k≠0:=fun e=>h0 (e▸hk);obtain⟨x,hx,hxk⟩:=gT hk2;have h1:=hT.counts k x hx hk0;rw[((hT.each k x hx).dir hxk).1]at h1;rw[LA,if_neg hk0,hcnt k hk0];omega
 ·have hx:=bI dU hT.sorted hq;have O:=hT.each _ _ hx;refine⟨?_,fun hh=>by have:=O.gone hh.1;rw[hh.2]at this;cases this⟩;by_cases hk0:q.1=0
  ·rw[if_pos hk0,hk0,abE h0];have hk2:q.2.kind=2:=by
    have:=hT.root;rw[←hk0,eP hx]at this;exact this
   rw[(O.dir hk2).1];rfl
  ·rw[if_neg hk0,hcnt _ hk0,Nat.zero_add];exact hT.counts _ _ hx hk0
end Go.Proofs.YtmflaonodghbcaaGreatDoor
