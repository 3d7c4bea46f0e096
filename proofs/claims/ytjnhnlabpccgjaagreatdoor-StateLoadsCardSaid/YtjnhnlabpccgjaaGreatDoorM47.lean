/- package -/
import Derived.Test.YtjnhnlabpccgjaaGreatDoorM46
import Derived.Test.YtjnhnlabpccgjaaGreatDoorM21
import Derived.Test.YtjnhnlabpccgjaaGreatDoorM24
import Derived.Test.YtjnhnlabpccgjaaGreatDoorM10
import Derived.Test.YtjnhnlabpccgjaaGreatDoorM38
import Derived.Test.YtjnhnlabpccgjaaGreatDoorM39
import Derived.Test.YtjnhnlabpccgjaaGreatDoorM41
import Derived.Test.YtjnhnlabpccgjaaGreatDoorM42
import Derived.Test.YtjnhnlabpccgjaaGreatDoorM40
import Derived.Deep.CutBlock
import Derived.Deep.DeepCutAuto
set_option maxRecDepth 100000
set_option maxHeartbeats 64000000
set_option linter.all false
namespace Go.Proofs.YtjnhnlabpccgjaaGreatDoor
open Go.ChangeShapes Go.WideShapes Go.ChangeAt Go.RowKit
structure rR(now:Int)(T:aA)(S:lN):Prop where
 okay:fZ T
 fine:lT S
 now:0≤now∧now≤1099511627776
 len:(bX S).length≤80000000
theorem Zi{bs:List UInt8}{s1 s2 s3 s4:Rd}{nw n:Int}{b rest:List UInt8}(n1:bq (bs,0) 8=(nw,s1))(n2:bq s1 8=(n,s2))(n4:gH s2 n=(b,s3))(n6:gH s3 (fq s3:Int)=(rest,s4)){now:Int}{T:aA}{S:lN}(e:bs=jc now T S)(h:rR now T S):
  nw=now∧n≤(fq s2:Int)∧b=dw (aV T)∧rest=bX S:=by
 have hsl:=ou h.okay.1.aV;have e8:(256:Int)^8=18446744073709551616:=rfl;have h1:=h.now;subst e;have m1:bq (jc now T S,0) 8=(now,(eB (dw (aV T)).length 8++(dw (aV T)++bX S),0)):=by
  unfold jc;rw[TK,TK];exact gW 8 now _ (by omega) (by omega)
 rw[m1]at n1;cases n1;rw[gW 8 _ _ (by omega) (by omega)]at n2;cases n2;rw[vW _ _ _ rfl]at n4;cases n4;have m5:fq (bX S,0)=(bX S).length:=by unfold fq;rw[if_neg (by simp)]
 rw[m5]at n6;have m6:gH (bX S,0) ((bX S).length:Int)=(bX S,([],0)):=by
  have:=vW (bX S) [] (bX S).length rfl;rw[aaA]at this;exact this
 rw[m6]at n6;cases n6;refine⟨rfl,?_,rfl,rfl⟩;unfold fq;rw[if_neg (by simp),List.length_append];omega
theorem WC{s3 s4:Rd}{rest:List UInt8}(n6:gH s3 (fq s3:Int)=(rest,s4)):s3.2=0→rest=s3.1:=fun h3=>by
 have hl:fq s3=s3.1.length:=by unfold fq;rw[if_neg (by simp[h3])]
 rw[hl]at n6;unfold gH at n6;rw[if_neg (by simp[h3]),if_neg (by omega)]at n6;split at n6
 ·have:s3.1=[]:=aad (by omega);cases n6;exact this.symm
 ·have e1:=aaF Prod.fst n6;dsimp only at e1;rw[←e1,aa2,List.take_length]
theorem st_yes{bs:List UInt8}{s1 s2 s3 s4:Rd}{nw n:Int}{b rest:List UInt8}(n1:bq (bs,0) 8=(nw,s1))(n2:bq s1 8=(n,s2))(n4:gH s2 n=(b,s3))(hn0:0≤n)(hb:0<b.length)(n6:gH s3 (fq s3:Int)=(rest,s4)):
  bs=eB nw 8++eB (b.length:Int) 8++b++rest:=by
 have h4:s3.2=0:=by
  have h9:=n4;unfold gH at h9;split at h9
  ·cases h9;simp at hb
  ·split at h9
   ·cases h9;simp at hb
   ·split at h9
    ·cases h9;simp at hb
    ·cases h9;rfl
 obtain⟨r1,r2,r3⟩:=CJ hn0 (show(gH s2 n).2.2=0 by rw[n4];exact h4);rw[n4]at r2 r3;have k2:=h_ (s:=s1) (k:=8) (by rw[n2];exact r1);rw[n2]at k2;have k1:=h_ (s:=(bs,0)) (k:=8) (by rw[n1];exact k2.1);rw[n1]at k1;dsimp only at r2 r3 k1 k2;rw[k1.2.1,k2.2.1,r2,r3,WC n6 h4];simp only[TK]
theorem EH{s s':Rd}{n:Int}{b:List UInt8}(h:gH s n=(b,s')):b.length≤s.1.length∧s'.1.length≤s.1.length:=by
 unfold gH at h;split at h
 ·cases h;exact⟨by simp,Nat.le_refl _⟩
 ·split at h
  ·cases h;exact⟨by simp,Nat.le_refl _⟩
  ·split at h
   ·cases h;exact⟨by simp,Nat.le_refl _⟩
   ·cases h;exact⟨by rw[List.length_take];omega,by dsimp only;rw[List.length_drop];omega⟩
theorem PE{s s':Rd}{k:Nat}{n:Int}(h:bq s k=(n,s')):s'.1.length≤s.1.length:=by
 obtain⟨q,hq⟩:∃q,gH s k=q:=⟨_,rfl⟩;have h9:=(EH (show gH s k=(q.1,q.2)from hq)).2;unfold bq at h;rw[hq]at h;cases h;exact h9
def LoadSt(W:World)(w:World)(bs:List UInt8)(e:Ending)(w':World):Prop:=
 (∃(q t s i:Nat) (o':Mark) (now:Int) (T:aA) (S:lN),e= .returned (.tuple #[ptr q,.int .i64 0])∧bs=jc now T S∧(0≤now∧now≤1099511627776)∧KW T∧SvW S∧w'.heap[q]? =some (.cells (EK t s now fun _=> .pointer none) 57 (0,0))∧Marks W o' w'∧jS KW o' i w' s S∧gZ o' 0 w' t T∧Below w.heap.size w w')∨
 (e= .returned (.tuple #[.pointer none,.int .i64 12])∧(∀now T S,bs=jc now T S→¬rR now T S)∧Below w.heap.size w w')
section
variable{W w:World}{o:Mark}
theorem EI{Q:Nat→Prop}(hM:Marks W o w)(a:Option Addr)(n0 c:Nat)(bs:List UInt8)(hr:ah Q w a n0 (bs.map bv))(hsl:bs.length≤85000000):
  Calls Tryz.prog 18 #[.slice a n0 c] w (LoadSt W w bs):=by
 have hln:bs.length=n0:=by simpa using hr.length
 obtain⟨⟨nw,s1⟩,n1⟩:∃q,bq (bs,0) 8=q:=⟨_,rfl⟩;obtain⟨⟨n,s2⟩,n2⟩:∃q,bq s1 8=q:=⟨_,rfl⟩;obtain⟨⟨b,s3⟩,n4⟩:∃q,gH s2 n=q:=⟨_,rfl⟩;obtain⟨⟨rest,s4⟩,n6⟩:∃q,gH s3 (fq s3:Int)=q:=⟨_,rfl⟩;have e8:(256:Int)^8=18446744073709551616:=rfl;have r1:=eD (bs,0) 8;have r3:=eD s1 8;rw[n1,e8]at r1;rw[n2,e8]at r3;dsimp only at r1 r3;have l1:=PE n1;have l2:=PE n2;obtain⟨l3,l4⟩:=EH n4;have l5:=(EH n6).1;have l6:fq s2≤s2.1.length:=by unfold fq;split<;>omega
 have l7:fq s3≤s3.1.length:=by unfold fq;split<;>omega
 dsimp only at l1;have HG:acs (∀now T S,bs=jc now T S→rR now T S→nw=now∧n≤(fq s2:Int)∧b=dw (aV T)∧rest=bX S):=fun now T S e h=>Zi n1 n2 n4 n6 e h;have HY:acs (0<b.length→bs=eB nw 8++eB (b.length:Int) 8++b++rest):=fun h=>st_yes n1 n2 n4 r3.1 h n6;obtain⟨j,hj,hjf⟩:=xH hM;have QL:=acr (Ww hM j a n0 c bs (by omega) hr);have HM:=acr hM;have BU:=acr n1;have ES:=acr n2;have ZG:=acr n4;have HN6:=acr n6;have hj0:¬(fun k=>k=j) 0:=fun e=>hj e.symm;have AU:=acr hj0;have N_:acs (∀{o':Mark} {w':World},Step o (fun k=>k=j) w o' w'→Below w.heap.size w w'):=fun hs=>hs.keep.gP acu fun x _ hx=>hjf x hx;obtain⟨R2,hR2⟩:∃R,R=fq s2:=⟨_,rfl⟩;have HR2E:=acr hR2;rw[←hR2]at l6;obtain⟨R3,tV⟩:∃R,R=fq s3:=⟨_,rfl⟩;rw[←tV]at l7 HN6;have HR3E:=acr tV;have hLb:b.length≤85000000:=by omega
 have hLr:rest.length≤85000000:=by omega
 have hR2b:R2≤85000000:=by omega
 have hR3b:R3≤85000000:=by omega
 have hsum:b.length+rest.length≤85000000∨b.length=0:=by
  by_cases h0:0<b.length
  ·left;have h9:=aaF List.length (HY.o h0);simp only[List.length_append,bB]at h9;omega
  ·right;omega
 have HSUM:=acr hsum;clear hM hr n1 n2 n4 n6 hj0 e8 hln hsl l1 l2 l3 l4 l5 l6 l7 hR2 tV hsum hjf;go_enter Tryz.func18,Tryz.ntmps18;go_wp2_with fail;refine QL.o.mono ?_;rintro e w1 ⟨xr,o1,rfl,nu,hs1⟩;have nM:=acr (HM.o.step AU.o hs1);have uU:=acr hs1;have Po:=acr (zM nu nM.o BU.o);clear nu hs1 QL;go_wp2_with fail;refine Po.o.mono ?_;rintro e w2 ⟨rfl,hR2,hs2⟩;have zO:=acr (nM.o.step AU.o hs2);have K5:=acr (uU.o.trans hs2);have xL:=acr (zM hR2 zO.o ES.o);clear hR2 hs2 Po nM uU;go_wp2_with fail;refine xL.o.mono ?_;rintro e w3 ⟨rfl,tV,hs3⟩;have Ca:=acr (zO.o.step AU.o hs3);have yA:=acr (K5.o.trans hs3);have Im:=acr (QC nw w3);have wD:=acr (IG tV);rw[←HR2E.o]at wD;have HR3:=acr tV;have z2:IntKind.u64.wrap (R2:Int)=(R2:Int):=by simp[IntKind.wrap,IntKind.bits,IntKind.signed];omega
 clear tV hs3 xL zO K5;by_cases hnw:nw≤1099511627776;rotate_left
 ·rw[aay hnw]at Im;have qW:acs (∀now T S,bs=jc now T S→¬rR now T S):=fun now T S e hF=>by
   obtain⟨g1,g2,g3,g4⟩:=HG.o now T S e hF;have:=hF.now;omega
  clear hnw;go_wp2_with fail;refine Im.o.mono ?_;rintro e _ ⟨rfl,rfl⟩;go_wp2_with fail
  go_ret2
  exact .inr ⟨rfl,qW.o,N_.o yA.o⟩
 rw[decide_eq_true hnw]at Im;by_cases hc:(R2:Int)<n
 ·have z4:decide ((R2:Int)<n)=true:=decide_eq_true hc;have qW:acs (∀now T S,bs=jc now T S→¬rR now T S):=fun now T S e hF=>by
   obtain⟨g1,g2,g3,g4⟩:=HG.o now T S e hF;have:=HR2E.o;omega
  clear hc;go_wp2_with fail;refine Im.o.mono ?_;rintro e _ ⟨rfl,rfl⟩;go_wp2_with fail;refine wD.o.mono ?_;rintro e _ ⟨rfl,rfl⟩;go_wp2_with fail
  go_ret2
  exact .inr ⟨rfl,qW.o,N_.o yA.o⟩
 have z4:decide ((R2:Int)<n)=false:=aay hc;have z9:IntKind.i64.wrap n=n:=aag _ (by omega);have SS:=acr (NU HR3.o Ca.o n r3.1 (by omega) ZG.o);clear HR3;go_wp2_with fail;refine Im.o.mono ?_;rintro e _ ⟨rfl,rfl⟩;go_wp2_with fail;refine wD.o.mono ?_;rintro e _ ⟨rfl,rfl⟩;go_wp2_with fail;refine SS.o.mono ?_;rintro e w4 ⟨a4,c4,rfl,hc4,hr4,Cq,hs4⟩;obtain⟨L,hL⟩:∃L,L=b.length:=⟨_,rfl⟩;rw[←hL]at hr4 hLb⊢;have FN:=acr hL;have nI:=acr (Ca.o.step AU.o hs4);have vF:=acr (yA.o.trans hs4);have eT:acs (ah (Free o1 w4) w4 a4 L (b.map bv)):=hr4;have HR4:=acr Cq;have QU:=acr (GV a4 L c4 b w4 (by omega) hr4);clear hc4 hr4 Cq hs4 SS wD Im Ca yA z2 z4 z9 hc hL;go_wp2_with fail;refine QU.o.mono ?_;intro e w5 hld;rcases hld with⟨T,p,hpar,hright,rfl,hnt⟩|⟨hno,rfl,hb5⟩;rotate_left
 ·have qW:acs (∀now T S,bs=jc now T S→¬rR now T S):=fun now T S e hF=>by
   obtain⟨g1,g2,g3,g4⟩:=HG.o now T S e hF;exact hno (aV T) (by rw[g3];exact uq (fZ.Ph hF.okay.aV.1)) (Ez hF.okay.aV)
  have iB:=acr ((N_.o vF.o).trans (hb5.mono (N_.o vF.o).size));clear hno hb5;go_wp2_with fail
  go_ret2
  exact .inr ⟨rfl,qW.o,iB.o⟩
 have hpf:=wN hpar;have hkw:=Pz hpf.2 hright;have DW:=acr hkw;have HSVB:=acr hpf.1;have Ld:acs (∀now U S,bs=jc now U S→rR now U S→T=aV U):=fun now U S e hF=>by
  have h9:=(HG.o now U S e hF).2.2.1;rw[h9,uq (fZ.Ph hF.okay.aV.1)]at hpar;exact(aaH hpar).symm
 have hb5:=hnt.below;have wZ:=acr (hnt.froz nI.o);have Ct:=acr (nI.o.grow hb5);have AV:=acr (vF.o.trans (Step.grow nI.o hb5));have iB:=acr (eT.o.free (I:=fun _=>False) (fun e=>e) (Step.grow nI.o hb5));have oM:=acr (HR4.o.grow nI.o hb5);have YG:=acr (rM wZ.o Ct.o DW.o.1);clear hpar hpf hright hnt hkw hb5 QU nI vF eT HR4;go_wp2_with fail;refine YG.o.mono ?_;rintro e w6 ⟨q2,rfl,Xy,hb6⟩;have Wz:=acr (yX Xy DW.o.aV.1 DW.o.aV.2);have Cb:=acr hb6;clear Xy hb6 YG;go_wp2_with fail;refine Wz.o.mono ?_;rintro e w7 ⟨a7,n7,c7,rfl,hc7,hr7,yw⟩;have yB:Below w5.heap.size w5 w7:=Cb.o.trans (yw.mono Cb.o.size);have WS:=acr (wZ.o.grow yB);have Lb:=acr (Ct.o.grow yB);have K7:=acr (AV.o.trans (Step.grow Ct.o yB));have WW:=acr (EG a7 a4 n7 L c7 c4 (dw (aV T)) b w7 hr7 (iB.o.free (I:=fun _=>False) (fun e=>e) (Step.grow Ct.o yB)));have hR7:=oM.o.grow Ct.o yB;have HL7:=acr (IG hR7);rw[←HR3E.o]at HL7;have HRW:=acr (NU hR7 Lb.o (R3:Int) (by omega) (by omega) HN6.o);clear hc7 hr7 yw yB hR7 Wz Cb wZ Ct AV oM iB;by_cases hbe:dw (aV T)=b;rotate_left
 ·rw[aay hbe]at WW;have qW:acs (∀now T S,bs=jc now T S→¬rR now T S):=fun now U S e hF=>by
   refine hbe ?_;rw[(HG.o now U S e hF).2.2.1,Ld.o now U S e hF,zG]
  clear hbe;go_wp2_with fail;refine WW.o.mono ?_;rintro e _ ⟨rfl,rfl⟩;go_wp2_with fail
  go_ret2
  exact .inr ⟨rfl,qW.o,N_.o K7.o⟩
 rw[decide_eq_true hbe]at WW;have HBE:=acr hbe;obtain⟨K,hK⟩:∃K,K=rest.length:=⟨_,rfl⟩;have El:=acr hK;have hpos:0<b.length:=by rw[←hbe];unfold dw;rw[List.length_append,bB];omega
 have HFULL:=acr (HY.o hpos);have OL:acs (b.length+rest.length≤85000000):=HSUM.o.resolve_right (by omega);clear hbe hK hpos;go_wp2_with fail;refine WW.o.mono ?_;rintro e _ ⟨rfl,rfl⟩;go_wp2_with fail;refine HL7.o.mono ?_;rintro e _ ⟨rfl,rfl⟩;go_wp2_with fail;refine HRW.o.mono ?_;rintro e w8 ⟨a8,c8,rfl,hc8,hr8,hR8,BL⟩;rw[←El.o]at hr8⊢;have Me:=acr (Lb.o.step AU.o BL);have HT8:=acr (WS.o.step AU.o AU.o BL);have Yu:=acr (K7.o.trans BL);have HSL:=acr (K_ Me.o a8 K c8 rest hr8 (by omega));clear hc8 hr8 hR8 BL HRW HL7 WW Lb WS K7;go_wp2_with fail;refine HSL.o.mono ?_;intro e w9 hld;have Lh:=N_.o Yu.o;rcases hld with⟨s9,S,o9,i9,rfl,hse,WE,huq,eH,hM9,hS9,j9,hi9,hj9,WA⟩|⟨rfl,hno,eH⟩;rotate_left
 ·have qW:acs (∀now T S,bs=jc now T S→¬rR now T S):=fun now U S e hF=>hno S (HG.o now U S e hF).2.2.2 hF.fine;have Dk:=acr (Lh.trans (eH.mono Lh.size));clear hno eH Lh;go_wp2_with fail
  go_ret2
  exact .inr ⟨rfl,qW.o,Dk.o⟩
 have Dk:=acr (Lh.trans (eH.mono Lh.size));have HM9:=acr hM9;have HS9:=acr hS9;have FU:=acr hse;have HSVW:=acr WE;have h09:¬(fun m=>m=i9∨m=j9) 0:=fun h=>h.elim (fun e=>hi9 e.symm) fun e=>hj9 e.symm;have HT9:acs (gZ o9 0 w9 p T):=HT8.o.step h09 h09 WA;clear hse WE huq eH hM9 hS9 WA h09 Lh HSL Me HT8 Yu;go_wp2_with fail
 go_ret2
 have hb:Below w9.heap.size w9 (w9.alloc (.cells (EK p s9 nw fun _=> .pointer none) 57)):=wall w9 _;refine .inl ⟨w9.heap.size,p,s9,i9,o9,nw,T,S,rfl,?_,⟨r1.1,hnw⟩,DW.o,HSVW.o,(MapKept.heap_alloc w9 _).1,HM9.o.grow hb,HS9.o.grow HM9.o hb,HT9.o.grow hb,Dk.o.trans (hb.mono Dk.o.size)⟩;rw[HFULL.o];unfold jc;rw[HBE.o,FU.o]
end
theorem xor8(x y:Int):∃z:UInt8,bits .xor .u8 x y=(z.toNat:Int):=by
 refine⟨UInt8.ofNat (bits .xor .u8 x y).toNat,?_⟩;have h:0≤bits .xor .u8 x y∧bits .xor .u8 x y<256:=by
  unfold bits;simp only[IntKind.wrap,IntKind.bits,IntKind.signed];simp;omega
 rw[UInt8.toNat_ofNat'];omega
theorem WG{w:World}{base:Nat}{e:TypeId}{a:Option Addr}{c n:Nat}{xs:List Value}(h:w.ownsRow base e 1 (.slice a n c) n xs)(h0:0<n):∃g cur,a=some ⟨g,0,none⟩∧base≤g∧g<w.heap.size∧w.heap[g]? =some (.cells cur e (0,0))∧ah (fun x=>x=g) w a n xs∧n≤c:=by
 have hr:=(ah.mR h).2;rcases h.2 with⟨h1,_⟩|⟨g,cap,cur,h1,hg,hcur,hcap,_⟩
 ·cases h1;omega
 ·cases h1;refine⟨g,cur,rfl,hg,(iL.1 hcur).1,hcur,⟨hr.length,hr.small,fun h0=> ?_⟩,hcap⟩;obtain⟨b,off,e1,hS,hb,hc⟩:=hr.at_ h0;cases e1;exact⟨_,_,rfl,rfl,hb,hc⟩
def Zj(w:World)(v:Value):Prop:=∃a n c y,v= .slice a n c∧n≤c∧n≤85000000∧ah (fun b=>b<w.heap.size) w a n ((y:List UInt8).map bv)
end Go.Proofs.YtjnhnlabpccgjaaGreatDoor
namespace Go.Proofs.YtjnhnlabpccgjaaGreatDoor.stateLoads
open Go.ChangeShapes Go.WideShapes Go.ChangeAt Go.RowKit
structure WH(W:World)(o:Mark)(w:World)(q:Nat)(c:Int)(M:dQ):Prop where
 marks:Marks W o w
 r:j_ o 1 w q M
 ok:fQ c M
 ids:rA M.s
 good:ni M.s
def Held(W:World)(q k:Nat)(w:World):Prop:=∃o M,WH W o w q (1+k) M
theorem EJ:∀(l:List iw),(∀x∈l,dZ x.t∧x.hash.length≤64)→(l.flatMap iJ).length≤6000100*l.length
 |[],_=>by simp
 |x::r,h=>by
  have h1:=h x (by simp);have h2:=EJ r fun y hy=>h y (by simp[hy]);have h3:=KF h1.1 h1.2;rw[List.flatMap_cons,List.length_append,List.length_cons];omega
theorem WH.fine{W w:World}{o:Mark}{q:Nat}{c:Int}{M:dQ}(h:WH W o w q c M)(hc:c≤1000000):KE M.s∧(bX M.s).length≤50001000∧rR M.now M.t M.s:=by
 have hv:=h.ok.sv (by omega) h.ids;have hl:(bX M.s).length≤50001000:=by
  have h1:=EJ M.s.l fun x hx=>⟨(h.ok.s.each x hx).1,(hv.each x hx).2⟩;have:=hv.few;have:=hv.last;unfold bX;simp only[List.length_append,bB,kZ];omega
 exact⟨hv,hl,h.ok.t,⟨h.good,hv,h.ok.s.each⟩,h.ok.now,by omega⟩
theorem walk{H:Type}{enc:TypeId×Value→H}(W:World)(base:Nat)(hsh:W.ShapedOpen Tryz.prog)(v0:Value)(d0:DataW H)(p0:List MemPlace)(o0:Value.okWide Tryz.prog W .any base 34 v0)(h0:DataW.Trod enc Tryz.prog W 0 (fun _=>true) true 34 v0 d0 p0)(l0:∀x∈p0,x.block<W.heap.size)(v1:Value)(d1:DataW H)(p1:List MemPlace)(o1:Value.okWide Tryz.prog W .any base 28 v1)(h1:DataW.Trod enc Tryz.prog W 0 (fun _=>true) true 28 v1 d1 p1)(l1:∀x∈p1,x.block<W.heap.size)(a2:Int)(w2:(Lit.int .i64 a2).wf=true)(a3:Int)(w3:(Lit.int .u8 a3).wf=true)(a4:Bool)(hsz:(DataW.weightsEach Tryz.prog [34,28,3,5,4] ([d0,d1,.lit (.int .i64 a2),.lit (.int .u8 a3),.lit (.bool a4)]:List (DataW H))).all (· ≤reachBytes)=true):
  Calls Tryz.prog 6 #[v0,v1,.int .i64 a2,.int .u8 a3,.bool a4] W (Fine W):=by
 obtain⟨m,hm,-⟩:=KP hsh;obtain⟨a,len,cap,rfl,hlc,hops⟩:=Nw h0 l0 o0 (fun n hn=>by
  rw[List.all_eq_true]at hsz;exact of_decide_eq_true (hsz n (qG (j:=0) rfl rfl n hn)))
 obtain⟨ba,bn,bc,bs,rfl,hbc,hR0⟩:∃a len cap bs,v1= .slice a len cap∧len≤cap∧ah (Old W) W a len ((bs:List UInt8).map bv):=by
  obtain⟨a0,len,cap,rfl⟩:=okWide_slice Tryz.underlying28 o1;obtain⟨fuel,hf⟩:=h1;exact Bw hf l1
 have hlm:=hops.1;unfold maxLen at hlm;have HM:=acr hm;have HO:=acr hops;have HR0:=acr hR0;have HW2:=acr w2;obtain⟨i8,hi⟩:∃i,Tryz.prog.info? 5=some i∧i.zero=some (.int .u8 0)∧i.size=1∧i.bytes=1:=aam (by kernel_rfl);have HI:=acr hi;clear hm hops o0 h0 l0 o1 h1 l1 hsz hsh hlc hR0 hi w2 w3;go_enter Tryz.func6,Tryz.ntmps6;go_wp2_with fail;refine(YK (i:=1) (UA W) (by omega)).mono ?_;rintro e w1 ⟨q,o1,rfl,hs1,hM1,nu⟩;have HST:acs (Held W q 0 w1):=⟨o1,Bg,hM1,nu,fQ.new,rA.new,ni.new⟩;clear hs1 hM1 nu
 go_upto_block 0 with(fail)
 go_cut [12]from 22 to 38 (fun i wx=>∃k,k≤40∧Held W q k wx)
 case first=>
  go_wp2_with fail
  go_loopw [12] (fun i wr=>∃k:Nat,i= .int .i64 k∧k≤40∧Held W q k wr) (fun i _=>40-(intOf i).toNat)
  case atStart=>exact⟨0,rfl,by omega,HST.o⟩
  case round=>
   obtain⟨k,rfl,hk,o,M,hW⟩:=hrel;have HW:=acr hW;have hbW:=hW.marks.below;clear hW;by_cases hlt:k<len
   ·have hd1:decide ((k:Int)<(len:Int))=true:=by simp;omega
    by_cases h40:k<40
    ·obtain⟨b,off,rfl,hbl,hat⟩:=HO.o.2 (by omega);obtain⟨x,da,dc,hx⟩:=hat k hlt;obtain⟨d0,d1,d2,d3,d4,d5,d6,d7,d8⟩:=hx.up hbW hbl;have HX:=acr hx;have hd2:decide ((k:Int)<40)=true:=by simp;omega
     have i0:(0:Int)≤(k:Int):=by omega
     have i1:(k:Int)<(len:Int):=by omega
     have HTM:=acr (VW wr x hx.ok da dc hx.cap (hx.row.below hbW acu));unfold opC at HTM;clear hx hat;go_wp2_with fail;refine HTM.o.mono ?_;rintro e w3 ⟨y,dc2,rfl,hty,hcap,hrow,hb3⟩;have Ca:=acr (HW.o.marks.grow hb3);have HR3:=acr (HW.o.r.grow HW.o.marks hb3);have hfr:ah (Free o w3) w3 da y.data.length (y.data.map bv):=hrow.mono fun b hb=>⟨Decidable.byContradiction fun h0=>by have:=(HW.o.marks.new b h0).1;omega,Nat.lt_of_lt_of_le hb Ca.o.below.size⟩;have HDO:=acr (RU y (hty.ok HX.o.ok) (by omega) HR3.o Ca.o HW.o.ok (by omega) da dc2 hfr (by rw[hty.data,List.length_take];omega));have HOK2:=acr (HW.o.ok.do_ y (hty.ok HX.o.ok));have HI2:=acr (HW.o.ids.do_ HW.o.ok.next.1 y);have HG2:=acr (HW.o.good.do_ y);clear hty hcap hrow hb3 HTM hfr d0 d1 d2 d3 d4 d5 d6 d7 d8;go_wp2_with fail;refine HDO.o.mono ?_;rintro e w4 ⟨o4,⟨v4,rfl,_⟩,hs4,Cq⟩;have HH4:acs (Held W q (k+1) w4):=by
      refine⟨o4,(fE M y).2,Ca.o.step (fun e=>by have:=e.1;omega) hs4,Cq,?_,HI2.o,HG2.o⟩;have h9:=HOK2.o
      rwa [show(1:Int)+((k+1:Nat):Int)=1+(k:Int)+1 by omega]
     clear hs4 Cq HDO Ca HR3;go_wp2_with fail;go_roundw
     case rel=>exact⟨k+1,by go_num,by omega,HH4.o⟩
     case measure=>simp[intOf];omega
    ·have hd2:decide ((k:Int)<40)=false:=by simp;omega
     have mH:acs (Held W q k wr):=⟨o,M,HW.o⟩;go_wp2_with fail
     go_meet
     exact⟨k,hk,mH.o⟩
   ·have hd1:decide ((k:Int)<(len:Int))=false:=by simp;omega
    have mH:acs (Held W q k wr):=⟨o,M,HW.o⟩;go_wp2_with fail
    go_meet
    exact⟨k,hk,mH.o⟩
 case rest=>
  obtain⟨k0,hk0,o,M,hW⟩:=hcut;obtain⟨w1,rfl⟩:∃w1:World,w1=wc:=⟨_,rfl⟩;obtain⟨hv,hln,hfi⟩:=hW.fine (by omega);have hsl:(oU M).length≤56001100:=by
   have:=ou hfi.okay.1.aV;unfold oU;simp only[List.length_append,bB];omega
  have HFI:=acr hfi;have Yw:acs (∀u,Below w1.heap.size w1 u→Calls Tryz.prog 15 #[ptr q] u (fB u (oU M))):=fun u hb=>YU (hW.r.grow hW.marks hb) (hW.marks.grow hb) hW.ok hv (by omega);have Mv:=acr hW.marks;obtain⟨sv,hsv⟩:∃sv,sv=oU M:=⟨_,rfl⟩;rw[←hsv]at Yw hsl;have h2l:2≤sv.length:=by rw[hsv];unfold oU;rw[List.length_append,List.length_append,List.length_append,bB];omega
  have Vq:acs (sv=jc M.now M.t M.s):=hsv;clear hW hfi hv hln hsv;go_wp2_with fail;refine(Yw.o _ acv).mono ?_;rintro e w2 ⟨xa,xc,rfl,hown,hb2⟩;obtain⟨g,cur,rfl,hg1,hg2,hcur,hrow,hlxc⟩:=WG hown (by omega);have HB2:=acr hb2;have HB1:=acr Mv.o.below;have HCUR:=acr hcur;obtain⟨L,hL⟩:∃L,L=sv.length:=⟨_,rfl⟩;have Ho:=acr hL;rw[←hL]at hrow hlxc hsl h2l⊢;have lg:=acr hrow;have hkb:=nR a2 0 ((L:Int)-1) (by omega);have HWI:=acr (fun u=>nS a2 0 ((L:Int)-1) u HW2.o (by omega) (by omega) (by omega));obtain⟨ki,hki⟩:∃ki,ki=bQ a2 0 ((L:Int)-1):=⟨_,rfl⟩;rw[←hki]at hkb HWI;obtain⟨k,rfl⟩:∃k:Nat,ki=k:=⟨ki.toNat,by omega⟩;have hkL:k<L:=by omega
  have hks:k<sv.length:=by omega
  have ewl:IntKind.i64.wrap ((L:Int)-1)=(L:Int)-1:=aag _ (by omega);obtain⟨b0,hb0⟩:∃b0,sv[k]? =some b0:=⟨_,List.getElem?_eq_getElem hks⟩;have hc0:w2.cell? ⟨g,k,none⟩=some (.int .u8 (b0.toNat:Int)):=by
   obtain⟨b',off',e1,_,_,hc⟩:=hrow.at_ (by omega);cases e1;have h9:=hc k hkL;rw[Nat.zero_add]at h9;rw[h9,List.getElem?_map,hb0];rfl
  have hfz:w2.frozen? ⟨g,k,none⟩=false:=ah.frozen HCUR.o rfl;obtain⟨z,hz⟩:=xor8 (b0.toNat:Int) a3;have xB:acs (ah (fun x=>x=g) (w2.setCell ⟨g,k,none⟩ (.int .u8 (bits .xor .u8 (b0.toNat:Int) a3))) (some ⟨g,0,none⟩) L ((sv.set k z).map bv)):=by
   have h9:=hrow.gI hkL (.int .u8 (bits .xor .u8 (b0.toNat:Int) a3));rw[Nat.zero_add]at h9;rw[List.map_set];have e9:bv z= .int .u8 (bits .xor .u8 (b0.toNat:Int) a3):=by rw[hz]
   rw[e9];exact h9
  have HB3:acs (Below w1.heap.size w1 (w2.setCell ⟨g,k,none⟩ (.int .u8 (bits .xor .u8 (b0.toNat:Int) a3)))):=HB2.o.setCell hg1 _;have hkc:k≤xc:=by omega
  have i0:(0:Int)≤(k:Int):=by omega
  have i1:(k:Int)<(L:Int):=by omega
  clear hown hb2 hcur hrow hki hkb hL hb0 hz hks;go_wp2_with fail;refine(HWI.o _).mono ?_;rintro e _ ⟨rfl,rfl⟩;go_upto_if 55 with(fail);obtain⟨w3,hw3⟩:∃w3,w3=w2.setCell ⟨g,k,none⟩ (.int .u8 (bits .xor .u8 (b0.toNat:Int) a3)):=⟨_,rfl⟩;rw[←hw3]at xB HB3⊢;have hg3:g<w3.heap.size:=by rw[hw3,size_set];exact hg2
  clear hw3 hc0 hfz lg HCUR HB2
  go_cut [13] (fun xv wx=>∃n y,xv= .slice (some ⟨g,0,none⟩) n xc∧n≤L∧ah (fun x=>x=g) w3 (some ⟨g,0,none⟩) n ((y:List UInt8).map bv)∧w3=wx)
  case first=>
   cases a4
   ·go_wp2_with fail
    go_meet
    exact⟨L,_,rfl,Nat.le_refl _,xB.o,rfl⟩
   ·go_wp2_with fail
    go_meet
    refine⟨k,(sv.set k z).take k,rfl,by omega,?_,rfl⟩;have h:=xB.o.take k;rw[abu (by omega),←aa3]at h;exact h
  case rest=>
   obtain⟨n,y,rfl,hnL,hrx,rfl⟩:=hcut;have HRX:=acr hrx;have hnc:n≤xc:=by omega
   clear hrx xB;have HCT1:acs (∀u:World,Calls Tryz.prog 17 #[.slice ba bn bc,.int .i64 100] u fun e w'=>e= .returned (.slice ba (min bn 100) bc)∧u=w'):=fun u=>Iq ba bn bc 100 hbc (by omega) HR0.o.small u;have HCT3:acs (∀u:World,Calls Tryz.prog 17 #[.slice ba bn bc,.int .i64 3] u fun e w'=>e= .returned (.slice ba (min bn 3) bc)∧u=w'):=fun u=>Iq ba bn bc 3 hbc (by omega) HR0.o.small u;obtain⟨m1,hm1⟩:∃m,m=min bn 100:=⟨_,rfl⟩;obtain⟨m3,Jl⟩:∃m,m=min bn 3:=⟨_,rfl⟩;have Ki:acs (∀u,Below w1.heap.size w1 u→ah (Old W) u ba m1 ((bs.take 100).map bv)∧ah (Old W) u ba m3 ((bs.take 3).map bv)):=fun u hb=>by
    have h:=HR0.o.below (HB1.o.trans (hb.mono HB1.o.size)) acu;have h1:=h.take 100;have h3:=h.take 3;rw[←hm1,←aa3]at h1;rw[←Jl,←aa3]at h3;exact⟨h1,h3⟩
   rw[←hm1]at HCT1;rw[←Jl]at HCT3;have hm1b:m1≤100∧m1≤bc:=by omega
   have hm3b:m3≤3∧m3≤bc:=by omega
   have HXA:acs (ah (fun x=>x=g) (w3.alloc (.cells #[] 5)) (some ⟨g,0,none⟩) n (y.map bv)):=HRX.o.below (wall w3 _) acu;clear hm1 Jl;go_wp2_with fail;refine(HCT1.o _).mono ?_;rintro e _ ⟨rfl,rfl⟩;go_wp2_with (at_builtin;go_loud (refine aQ rfl _ _ 28 rfl w3.heap.size 5 i8 _ 1 Tryz.underlying28 HI.o.1 HI.o.2.1 HI.o.2.2.1 HI.o.2.2.2 rfl (.slice (some ⟨w3.heap.size,0,none⟩) 0 0) 0 ([]) rfl (qo (MapKept.heap_alloc w3 _).1 acu) (some ⟨g,0,none⟩) n xc (y.map bv) rfl HXA.o (dV _) (by unfold maxLen;omega) (by omega) (by simp) ?_;intro A2 c2 u2 hown hg _ hat;simp only[Nat.zero_add,List.nil_append]at hown hat⊢;have E8:=acr hown;have Zk:=acr (dK hg (tY w3) (wall w3 _));clear hown hg hat));have KQ:=acr (Ki.o u2 (HB3.o.trans (Zk.o.mono HB3.o.size)));refine(HCT3.o _).mono ?_;rintro e _ ⟨rfl,rfl⟩;go_wp2_with (at_builtin;go_loud (refine aQ rfl _ _ 28 rfl w3.heap.size 5 i8 _ 1 Tryz.underlying28 HI.o.1 HI.o.2.1 HI.o.2.2.1 HI.o.2.2.2 rfl (.slice A2 n c2) n (y.map bv) rfl E8.o ba m3 bc ((bs.take 3).map bv) rfl KQ.o.2 (dV _) (by unfold maxLen;omega) (by omega) Zk.o.size ?_;intro A4 c4 u4 hown hg _ hat;have Nc:=acr hown;have Zl:=acr (dK hg (fun b hb=>dA E8.o b hb) Zk.o);clear hown hg hat));have hB4:=HB3.o.trans (Zl.o.mono HB3.o.size);have hs4:=Zl.o.size;obtain⟨w8,hw8⟩:∃w8,w8=u4.alloc (.cells #[.slice (some ⟨g,0,none⟩) n xc,.slice ba m1 bc,.slice A4 (n+m3) c4] 28):=⟨_,rfl⟩;have wE:Below u4.heap.size u4 w8:=by rw[hw8];exact wall u4 _
   have BL:u4.heap.size<w8.heap.size:=by rw[hw8];simp
   have uR:=acr (hB4.trans (wE.mono hB4.size));have C_:acs (∀j,j<3→∃v,w8.cell? ⟨u4.heap.size,j,none⟩=some v∧Zj w8 v):=fun j hj=>by
    have hcc:w8.cell? ⟨u4.heap.size,j,none⟩=(#[Value.slice (some ⟨g,0,none⟩) n xc,.slice ba m1 bc,.slice A4 (n+m3) c4]:Array Value)[j]? :=by
     rw[hw8];simp only[World.cell?,(MapKept.heap_alloc u4 _).1]
     first|rfl|simp
    have h4:(y.map bv)++((bs.take 3).map bv)=(y++bs.take 3).map bv:=by simp
    have hr4:=ah.mR Nc.o;rw[h4]at hr4
    match j,hj with
    |0,_=>exact⟨_,by rw[hcc];rfl,_,n,xc,y,rfl,hnc,by omega,(HRX.o.below (Zl.o.trans (wE.mono hs4)) acu).mono fun b hb=>by subst hb;omega⟩
    |1,_=>exact⟨_,by rw[hcc];rfl,ba,m1,bc,bs.take 100,rfl,hm1b.2,by omega,(Ki.o _ uR.o).1.mono fun b hb=>by have:=HB1.o.size;have:=uR.o.size;omega⟩
    |2,_=>exact⟨_,by rw[hcc];rfl,A4,n+m3,c4,y++bs.take 3,rfl,by obtain⟨a9,c9,e9,h9⟩:=fM Nc.o;cases e9;exact h9,by omega,(hr4.2.below wE acu).mono fun b hb=>by omega⟩
   have HMK8:=acr (Mv.o.grow uR.o);rw[←hw8];clear hw8 wE Nc Zl Zk E8 KQ HXA HRX hB4 HCT1 HCT3 Ki hs4 HR0
   go_loopw [70] (fun iv wr=>∃j:Nat,iv= .int .i64 j∧j≤3∧Below w8.heap.size w8 wr) (fun iv _=>3-(intOf iv).toNat)
   case atStart=>exact⟨0,rfl,by omega,Below.refl _ _⟩
   case round=>
    obtain⟨j,rfl,hj,hB⟩:=hrel;have E9:=acr hB;have SL:=hB.size;clear hB;by_cases hlt:j<3
    ·have hd1:decide ((j:Int)<3)=true:=by simp;omega
     obtain⟨v,hcv,an,nn,cc,yy,rfl,hnc',hn9,hry⟩:=C_.o j hlt;have c0:wr.cell? ⟨u4.heap.size,j,none⟩=some (.slice an nn cc):=(E9.o.cell (p:=⟨u4.heap.size,j,none⟩) BL).trans hcv;have Zm:=hry.below E9.o acu;have j0:(0:Int)≤(j:Int):=by omega
     have j1:(j:Int)<3:=by omega
     have hyl:yy.length=nn:=by have:=Zm.length;simpa using this
     have HRY:=acr Zm;have QU:=acr (EI (HMK8.o.grow E9.o) an nn cc yy Zm (by omega));obtain⟨wo,rfl⟩:∃wo:World,wo=wr:=⟨_,rfl⟩;have HJ:=acr hlt;have HYL:=acr hyl;clear hcv hry Zm hlt hj hyl;go_wp2_with fail;refine QU.o.mono ?_;clear QU c0;intro e wa hld;rcases hld with⟨u2,t2,s2,i2,o2,now2,T2,S2,rfl,hse,Vb,hkw,WE,hcs,hMa,hsna,htra,hba⟩|⟨rfl,_,hba⟩
     ·have HSA:acs (∀v,Below wa.heap.size wa v→Calls Tryz.prog 19 #[ptr u2] v (z_ v yy)):=fun v hb=>by
       have hl:=aaF List.length hse;unfold jc at hl;simp only[List.length_append,bB]at hl;have h9:=HYL.o;have hu:=(iL.1 hcs).1;rw[hse];exact Wu ((hb.block _ hu).trans hcs) (hsna.grow hMa hb) (htra.grow hb) (hMa.grow hb) hkw WE Vb (by omega)
      have Bu:=acr hba;clear hse WE hba hMa hsna Vb hkw hcs htra;go_wp2_with fail;refine BP ((fun w'=>(convert 28 9 (.slice an nn cc)).run Tryz.prog w'= .ok (.string (strOf yy)) w')) ?_ fun hS=> ?_
      ·exact mM (c:=cc) (HRY.o.below (Bu.o.trans (acv.drew.mono Bu.o.size)) acu)
      refine aX 0 hS ?_;refine aX 1 hS ?_;refine aX 2 hS ?_;refine aX 3 hS ?_;refine aX 4 hS ?_;refine aX 5 hS ?_;refine aX 6 hS ?_;refine aX 7 hS ?_;refine aX 8 hS ?_;refine oq 9 hS ?_;refine oq 10 hS ?_;refine aX 11 hS ?_;refine aX 12 hS ?_;refine aX 13 hS ?_;refine aX 14 hS ?_;refine aX 15 hS ?_;refine aX 16 hS ?_;refine aX 17 hS ?_;refine aX 20 hS ?_;refine aX 21 hS ?_;refine Bl 18 fun K hK=> ?_;go_simp;refine(HSA.o _ acv.drew).mono ?_;rintro e wb ⟨ab,nb,cb,rfl,hcb,hrb,hbb⟩;have ZV:Below wo.heap.size wo wb:=Bu.o.trans (((Below.refl wa.heap.size wa).drew.trans hbb).mono Bu.o.size);have Ki:=acr hrb;have EO:=acr ZV;clear hrb hbb ZV HSA;go_wp2_with fail;refine Ag hK (mM (c:=cc) (HRY.o.below EO.o acu)) fun hS=> ?_;clear hK K;refine Bj (S':=fun w'=>(convert 28 9 (.slice an nn cc)).run Tryz.prog w'= .ok (.string (strOf yy)) w'∧(convert 28 9 (.slice ab nb cb)).run Tryz.prog w'= .ok (.string (strOf yy)) w') (fun _ h=>h.1) _ _ _ _ ?_;have hSx1:=And.intro hS (mM (c:=cb) Ki.o);clear hS;have hS:=hSx1;clear hSx1;refine aX 19 hS ?_;refine aX 22 hS ?_;refine aX 23 hS ?_;refine aX 24 hS ?_;refine Bn ?_;clear hS;go_wp2_with fail;go_roundw
      case rel=>exact⟨j+1,by go_num,by have:=HJ.o;omega,E9.o.trans (EO.o.mono E9.o.size)⟩
      case measure=>have:=HJ.o;simp[intOf];omega
     ·have Bu:=acr hba;clear hba;go_wp2_with fail;refine BP ((fun w'=>(convert 28 9 (.slice an nn cc)).run Tryz.prog w'= .ok (.string (strOf yy)) w')) ?_ fun hS=> ?_
      ·exact mM (c:=cc) (HRY.o.below (Bu.o.trans (acv.drew.mono Bu.o.size)) acu)
      refine aX 0 hS ?_;refine aX 1 hS ?_;refine aX 2 hS ?_;refine aX 3 hS ?_;refine aX 4 hS ?_;refine aX 5 hS ?_;refine aX 6 hS ?_;refine aX 7 hS ?_;refine aX 8 hS ?_;refine aX 9 hS ?_;refine aX 10 hS ?_;refine aX 11 hS ?_;refine aX 12 hS ?_;refine aX 13 hS ?_;refine aX 14 hS ?_;refine aX 15 hS ?_;refine aX 16 hS ?_;refine oq 17 hS ?_;refine oq 18 hS ?_;refine oq 19 hS ?_;refine oq 20 hS ?_;refine oq 21 hS ?_;refine oq 22 hS ?_;refine aX 23 hS ?_;refine aX 24 hS ?_;refine Bn ?_;clear hS;have EO:acs (Below wo.heap.size wo wa.drew):=Bu.o.trans (acv.drew.mono Bu.o.size);go_wp2_with fail;go_roundw
      case rel=>exact⟨j+1,by go_num,by have:=HJ.o;omega,E9.o.trans (EO.o.mono E9.o.size)⟩
      case measure=>have:=HJ.o;simp[intOf];omega
    ·have hd1:decide ((j:Int)<3)=false:=by simp;omega
     have Zn:=acr (uR.o.trans (E9.o.mono uR.o.size));obtain⟨wo,rfl⟩:∃wo:World,wo=wr:=⟨_,rfl⟩;clear hlt hj E9;go_wp2_with fail;refine(Yw.o _ Zn.o).mono ?_;rintro e w14 ⟨sa,sc,rfl,hown,Wv⟩;have hrow:=dN hown;have Zo:=acr (Zn.o.trans (Wv.mono Zn.o.size));rw[←Ho.o]at hrow⊢;have QU:=acr (EI (Mv.o.grow Zo.o) sa L sc sv hrow (by have:=Ho.o;omega));clear hown Wv hrow Yw Zn;go_wp2_with fail;refine QU.o.mono ?_;intro e w15 hld;rcases hld with⟨u2,t2,s2,i2,o2,now2,T2,S2,rfl,_,_,_,_,_,_,_,_,Sq⟩|⟨rfl,hno,Sq⟩;rotate_left
     ·exact(hno _ _ _ Vq.o HFI.o).elim
     have hB15:=Zo.o.trans (Sq.mono Zo.o.size);have hBW:=HB1.o.trans (hB15.mono HB1.o.size);have HB15:=acr hBW;have hmw:=(hBW.cell (p:=⟨0,0,none⟩) (aaj W _ HM.o)).trans HM.o;have HK:=acr (R5 w15 m hmw);clear Sq hB15 hBW hmw QU Zo;go_wp2_with fail;refine HK.o.mono ?_;rintro e w16 ⟨rfl,Ce⟩;have HB16:=acr (HB15.o.trans (Ce.mono HB15.o.size));clear Ce HB15;go_wp2_with fail;go_ret;exact⟨rfl,HB16.o⟩
end Go.Proofs.YtjnhnlabpccgjaaGreatDoor.stateLoads
