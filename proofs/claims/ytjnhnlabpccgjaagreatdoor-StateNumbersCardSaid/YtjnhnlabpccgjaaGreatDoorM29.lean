/- package -/
import Derived.Test.YtjnhnlabpccgjaaGreatDoorM28
import Derived.Test.YtjnhnlabpccgjaaGreatDoorM13
import Derived.Test.YtjnhnlabpccgjaaGreatDoorM27
set_option maxRecDepth 100000
set_option maxHeartbeats 64000000
set_option linter.all false
namespace Go.Proofs.YtjnhnlabpccgjaaGreatDoor
open Go.ChangeShapes Go.WideShapes Go.ChangeAt Go.RowKit
theorem Uk(kd:Int)(hkd:kd=1∨kd=2∨kd=3∨kd=8∨kd=9∨kd=11∨kd=12∨kd=13)(p:Nat)(w:World)(pa dD:List UInt8)(fd at_ n aA sn:Int)(dt:List UInt8)(da:Option Addr)(dc:Nat)(hpa:pa.length<4294967281)(hto:dD.length<4294967281)(m:Int)(hm:w.cell? ⟨0,0,none⟩=some (.int .i64 m)):
  Calls Tryz.prog 69 #[ptr p,.agg (opC ⟨kd,pa,dD,fd,at_,n,aA,sn,dt⟩ da dc)] w (fV w (fK [pa])):=by
 rcases hkd with hkd|hkd|hkd|hkd|hkd|hkd|hkd|hkd
 all_goals as_aux_lemma=>
  obtain⟨ie,he,hz0,hz1,hz2⟩:=aap Ar;have J5:0<w.heap.size:=aag w _ hm;obtain⟨w1,hw1⟩:∃w1,w1=(w.alloc (.cells (opC ⟨kd,pa,dD,fd,at_,n,aA,sn,dt⟩ da dc) 30)).alloc (.cells #[.string (strOf pa)] 9):=⟨_,rfl⟩;have hb1:Below w.heap.size w w1:=by rw[hw1];exact(wall w _).trans ((wall _ _).mono (by simp))
  have hbl:w1.heap[w.heap.size+1]? =some (.cells #[.string (strOf pa)] 9 (0,0)):=by
   rw[hw1];have:=(MapKept.heap_alloc (w.alloc (.cells (opC ⟨kd,pa,dD,fd,at_,n,aA,sn,dt⟩ da dc) 30)) (.cells #[.string (strOf pa)] 9)).1;rw[aad]at this;exact this
  have hrow:∀k t,([pa]:List (List UInt8))[k]? =some t→w1.cell? ⟨w.heap.size+1,k,none⟩=some (.string (strOf t))∧t.length<4294967281:=fun k t h=>by
   rcases k with _|k
   ·obtain rfl:pa=t:=by simpa using h
    exact⟨by simp[World.cell?,hbl],hpa⟩
   ·simp at h
  have hbz:w.heap.size+1<w1.heap.size:=(iA.1 hbl).1;clear hbl;have iL:=acA hrow;have HB1:=acA hb1;have HW:=acA hw1;have HM:=acA hm;have Ah:=acA J5;clear hrow hb1 hw1 hm hpa hto J5;subst hkd;unfold opC at HW;unfold opC;go_enter Tryz.func69,Tryz.ntmps69;go_wp2_with fail;rw[←HW.o];clear HW;obtain⟨ts,hts⟩:∃ts:List (List UInt8),ts=[pa]:=⟨_,rfl⟩;have hnn:ts.length=1:=by rw[hts];rfl
  rw[←hts]at iL;have HTS:=acA hts;clear hts;have xP:=acA hnn;clear hnn
  go_loopw [7,44] (fun v iv wr=>∃k:Nat,k≤1∧iv= .int .i64 k∧gJ w1 ts k v wr) (fun _ iv _=>1-(intOf iv).toNat)
  case atStart=>exact⟨0,by omega,rfl,gJ.start ts acD⟩
  case round=>
   obtain⟨k,hk,rfl,hrel⟩:=hrel;have HR:=acA hrel;clear hrel;by_cases hlt:k<1
   ·obtain⟨t,ht⟩:∃t,ts[k]? =some t:=⟨ts[k]'(by rw[xP.o];exact hlt),List.getElem?_eq_getElem _⟩;obtain⟨hc1,hts⟩:=iL.o k t ht;obtain⟨vals,hown,hpv,hbw,hok⟩:=HR.o;have hcell:=(hbw.cell (p:=⟨w.heap.size+1,k,none⟩) hbz).trans hc1;have hmr:wr.cell? ⟨0,0,none⟩=some (.int .i64 m):=((HB1.o.trans (hbw.mono HB1.o.size)).cell (p:=⟨0,0,none⟩) Ah.o).trans HM.o;have jg:=acA (FU (strOf t) wr (by rw[fu];exact hts) m hmr);have HT:=acA ht;have HOWN:=acA hown;have HPV:=acA hpv;have G7:=acA hbw;have iM:=acA hok;have i0:(0:Int)≤(k:Int):=by omega
    have i1:(k:Int)<1:=by omega
    have hsz:=hbw.size;have hd:decide ((k:Int)<1)=true:=by simpa using i1
    obtain⟨ao,co,rfl,hac⟩:=dI hown;clear hown hpv hbw hok ht hc1 hts hmr;go_wp2_with fail;refine jg.o.mono ?_;rintro e w2 ⟨a,len,cap,ss,rfl,hlc,hbs,hS,hb2⟩;rw[show(strOf t).data.toList=t from rfl]at hbs⊢;have Y9:=acA hbs;have HS:=acA hS;have HB2:=acA hb2;have Ma:=acA hlc;have hs2:=hb2.size;clear jg hbs hS hb2 hlc;obtain⟨z,hz⟩:∃z,z=(aC t).2:=⟨_,rfl⟩;rw[←hz];by_cases hzz:z=0
    ·have HZ:=acA (hz.symm.trans hzz);subst hzz;clear hz;go_wp2_with (at_builtin;refine aS (by rfl) _ _ 118 (by rfl) w1.heap.size 26 ie (.slice none 0 0) 24 Tryz.underlying118 he hz0 hz1 hz2 rfl _ _ _ (by rfl) (dJ HOWN.o fun b hb _=>((wall w2 (.cells #[.slice a len cap] 26)).block b (by have:=kR HOWN.o b hb;omega)).trans (HB2.o.block b (kR HOWN.o b hb))) (some ⟨w2.heap.size,0,none⟩) 1 1 [.slice a len cap] (by rfl) (rO _ _) (by intro u hu;rw[List.mem_singleton.1 hu];rfl) (by unfold maxLen;omega) (by omega) (by simp;omega) ?_;intro A' c' w4 kL yg _ Ul);have HN:=acA (gJ.next HOWN.o HPV.o G7.o iM.o HT.o HZ.o Ma.o Y9.o HS.o HB2.o (wall w2 _) kL yg Ul);have HG4:=acA yg;clear kL yg Ul;go_roundw
     case rel=>
      exact⟨k+1,by omega,by go_num,HN.o⟩
     case measure=>simp[intOf];omega
    ·have HZ:=acA hzz;have hz2:(z !=0)=true:=by simpa using hzz
     have BQ:=acA hz;clear hzz hz;go_wp2_with fail
     go_ret2
     rw[←HTS.o,kF ts k t HT.o iM.o (by rw[←BQ.o];exact HZ.o)];exact⟨none,0,0,[],by rw[BQ.o];rfl,rfl,Nat.le_refl _,ah.nil _ _ _,⟨rfl,fun i q hq=>by simp at hq⟩,HB1.o.trans ((G7.o.trans (HB2.o.mono G7.o.size)).mono HB1.o.size)⟩
   ·have hd:decide ((k:Int)<1)=false:=by simp;omega
    obtain rfl:k=1:=by omega
    obtain⟨a,c,vals,rfl,hac,hown⟩:=HR.o.one;clear hown;go_wp2_with fail
    go_ret2
    have hd:=HR.o;rw[←xP.o]at hd;have:=hd.done;rw[xP.o,HTS.o]at this;exact this.up HB1.o
theorem Um(kd:Int)(hkd:kd=7∨kd=10)(p:Nat)(w:World)(pa dD:List UInt8)(fd at_ n aA sn:Int)(dt:List UInt8)(da:Option Addr)(dc:Nat)(hpa:pa.length<4294967281)(hto:dD.length<4294967281)(m:Int)(hm:w.cell? ⟨0,0,none⟩=some (.int .i64 m)):
  Calls Tryz.prog 69 #[ptr p,.agg (opC ⟨kd,pa,dD,fd,at_,n,aA,sn,dt⟩ da dc)] w (fV w (fK [pa,dD])):=by
 rcases hkd with hkd|hkd
 all_goals as_aux_lemma=>
  obtain⟨ie,he,hz0,hz1,hz2⟩:=aap Ar;have J5:0<w.heap.size:=aag w _ hm;obtain⟨w1,hw1⟩:∃w1,w1=(w.alloc (.cells (opC ⟨kd,pa,dD,fd,at_,n,aA,sn,dt⟩ da dc) 30)).alloc (.cells #[.string (strOf pa),.string (strOf dD)] 9):=⟨_,rfl⟩;have hb1:Below w.heap.size w w1:=by rw[hw1];exact(wall w _).trans ((wall _ _).mono (by simp))
  have hbl:w1.heap[w.heap.size+1]? =some (.cells #[.string (strOf pa),.string (strOf dD)] 9 (0,0)):=by
   rw[hw1];have:=(MapKept.heap_alloc (w.alloc (.cells (opC ⟨kd,pa,dD,fd,at_,n,aA,sn,dt⟩ da dc) 30)) (.cells #[.string (strOf pa),.string (strOf dD)] 9)).1;rw[aad]at this;exact this
  have hrow:∀k t,([pa,dD]:List (List UInt8))[k]? =some t→w1.cell? ⟨w.heap.size+1,k,none⟩=some (.string (strOf t))∧t.length<4294967281:=fun k t h=>by
   rcases k with _|k
   ·obtain rfl:pa=t:=by simpa using h
    exact⟨by simp[World.cell?,hbl],hpa⟩
   ·rcases k with _|k
    ·obtain rfl:dD=t:=by simpa using h
     exact⟨by simp[World.cell?,hbl],hto⟩
    ·simp at h
  have hbz:w.heap.size+1<w1.heap.size:=(iA.1 hbl).1;clear hbl;have iL:=acA hrow;have HB1:=acA hb1;have HW:=acA hw1;have HM:=acA hm;have Ah:=acA J5;clear hrow hb1 hw1 hm hpa hto J5;subst hkd;unfold opC at HW;unfold opC;go_enter Tryz.func69,Tryz.ntmps69;go_wp2_with fail;rw[←HW.o];clear HW;obtain⟨ts,hts⟩:∃ts:List (List UInt8),ts=[pa,dD]:=⟨_,rfl⟩;have hnn:ts.length=2:=by rw[hts];rfl
  rw[←hts]at iL;have HTS:=acA hts;clear hts;have xP:=acA hnn;clear hnn
  go_loopw [7,44] (fun v iv wr=>∃k:Nat,k≤2∧iv= .int .i64 k∧gJ w1 ts k v wr) (fun _ iv _=>2-(intOf iv).toNat)
  case atStart=>exact⟨0,by omega,rfl,gJ.start ts acD⟩
  case round=>
   obtain⟨k,hk,rfl,hrel⟩:=hrel;have HR:=acA hrel;clear hrel;by_cases hlt:k<2
   ·obtain⟨t,ht⟩:∃t,ts[k]? =some t:=⟨ts[k]'(by rw[xP.o];exact hlt),List.getElem?_eq_getElem _⟩;obtain⟨hc1,hts⟩:=iL.o k t ht;obtain⟨vals,hown,hpv,hbw,hok⟩:=HR.o;have hcell:=(hbw.cell (p:=⟨w.heap.size+1,k,none⟩) hbz).trans hc1;have hmr:wr.cell? ⟨0,0,none⟩=some (.int .i64 m):=((HB1.o.trans (hbw.mono HB1.o.size)).cell (p:=⟨0,0,none⟩) Ah.o).trans HM.o;have jg:=acA (FU (strOf t) wr (by rw[fu];exact hts) m hmr);have HT:=acA ht;have HOWN:=acA hown;have HPV:=acA hpv;have G7:=acA hbw;have iM:=acA hok;have i0:(0:Int)≤(k:Int):=by omega
    have i1:(k:Int)<2:=by omega
    have hsz:=hbw.size;have hd:decide ((k:Int)<2)=true:=by simpa using i1
    obtain⟨ao,co,rfl,hac⟩:=dI hown;clear hown hpv hbw hok ht hc1 hts hmr;go_wp2_with fail;refine jg.o.mono ?_;rintro e w2 ⟨a,len,cap,ss,rfl,hlc,hbs,hS,hb2⟩;rw[show(strOf t).data.toList=t from rfl]at hbs⊢;have Y9:=acA hbs;have HS:=acA hS;have HB2:=acA hb2;have Ma:=acA hlc;have hs2:=hb2.size;clear jg hbs hS hb2 hlc;obtain⟨z,hz⟩:∃z,z=(aC t).2:=⟨_,rfl⟩;rw[←hz];by_cases hzz:z=0
    ·have HZ:=acA (hz.symm.trans hzz);subst hzz;clear hz;go_wp2_with (at_builtin;refine aS (by rfl) _ _ 118 (by rfl) w1.heap.size 26 ie (.slice none 0 0) 24 Tryz.underlying118 he hz0 hz1 hz2 rfl _ _ _ (by rfl) (dJ HOWN.o fun b hb _=>((wall w2 (.cells #[.slice a len cap] 26)).block b (by have:=kR HOWN.o b hb;omega)).trans (HB2.o.block b (kR HOWN.o b hb))) (some ⟨w2.heap.size,0,none⟩) 1 1 [.slice a len cap] (by rfl) (rO _ _) (by intro u hu;rw[List.mem_singleton.1 hu];rfl) (by unfold maxLen;omega) (by omega) (by simp;omega) ?_;intro A' c' w4 kL yg _ Ul);have HN:=acA (gJ.next HOWN.o HPV.o G7.o iM.o HT.o HZ.o Ma.o Y9.o HS.o HB2.o (wall w2 _) kL yg Ul);have HG4:=acA yg;clear kL yg Ul;go_roundw
     case rel=>
      exact⟨k+1,by omega,by go_num,HN.o⟩
     case measure=>simp[intOf];omega
    ·have HZ:=acA hzz;have hz2:(z !=0)=true:=by simpa using hzz
     have BQ:=acA hz;clear hzz hz;go_wp2_with fail
     go_ret2
     rw[←HTS.o,kF ts k t HT.o iM.o (by rw[←BQ.o];exact HZ.o)];exact⟨none,0,0,[],by rw[BQ.o];rfl,rfl,Nat.le_refl _,ah.nil _ _ _,⟨rfl,fun i q hq=>by simp at hq⟩,HB1.o.trans ((G7.o.trans (HB2.o.mono G7.o.size)).mono HB1.o.size)⟩
   ·have hd:decide ((k:Int)<2)=false:=by simp;omega
    obtain rfl:k=2:=by omega
    obtain⟨a,c,vals,rfl,hac,hown⟩:=HR.o.one;clear hown;go_wp2_with fail
    go_ret2
    have hd:=HR.o;rw[←xP.o]at hd;have:=hd.done;rw[xP.o,HTS.o]at this;exact this.up HB1.o
theorem Un(kd:Int)(hkd:kd=4∨kd=5∨kd=6∨kd=14∨kd=15∨kd=16∨kd=17)(p:Nat)(w:World)(pa dD:List UInt8)(fd at_ n aA sn:Int)(dt:List UInt8)(da:Option Addr)(dc:Nat)(hpa:pa.length<4294967281)(hto:dD.length<4294967281)(m:Int)(hm:w.cell? ⟨0,0,none⟩=some (.int .i64 m)):
  Calls Tryz.prog 69 #[ptr p,.agg (opC ⟨kd,pa,dD,fd,at_,n,aA,sn,dt⟩ da dc)] w (fV w (fK [])):=by
 rcases hkd with hkd|hkd|hkd|hkd|hkd|hkd|hkd
 all_goals as_aux_lemma=>
  obtain⟨ie,he,hz0,hz1,hz2⟩:=aap Ar;have J5:0<w.heap.size:=aag w _ hm;obtain⟨w1,hw1⟩:∃w1,w1=w.alloc (.cells (opC ⟨kd,pa,dD,fd,at_,n,aA,sn,dt⟩ da dc) 30):=⟨_,rfl⟩;have hb1:Below w.heap.size w w1:=by rw[hw1];exact wall w _
  have hrow:∀k t,([]:List (List UInt8))[k]? =some t→w1.cell? ⟨w.heap.size+1,k,none⟩=some (.string (strOf t))∧t.length<4294967281:=fun k t h=>by simp at h
  have iL:=acA hrow;have HB1:=acA hb1;have HW:=acA hw1;have HM:=acA hm;have Ah:=acA J5;clear hrow hb1 hw1 hm hpa hto J5;subst hkd;unfold opC at HW;unfold opC;go_enter Tryz.func69,Tryz.ntmps69;go_wp2_with fail;rw[←HW.o];clear HW;obtain⟨ts,hts⟩:∃ts:List (List UInt8),ts=[]:=⟨_,rfl⟩;have hnn:ts.length=0:=by rw[hts];rfl
  rw[←hts]at iL;have HTS:=acA hts;clear hts;have xP:=acA hnn;clear hnn
  go_loopw [7,44] (fun v iv wr=>∃k:Nat,k≤0∧iv= .int .i64 k∧gJ w1 ts k v wr) (fun _ iv _=>0-(intOf iv).toNat)
  case atStart=>exact⟨0,by omega,rfl,gJ.start ts acD⟩
  case round=>
   obtain⟨k,hk,rfl,hrel⟩:=hrel;have HR:=acA hrel;clear hrel;obtain rfl:k=0:=by omega
   obtain⟨a,c,vals,rfl,hac,hown⟩:=HR.o.one;go_wp2_with fail
   go_ret2
   have hd:=HR.o;rw[←xP.o]at hd;have:=hd.done;rw[xP.o,HTS.o]at this;exact this.up HB1.o
theorem P_(p:Nat)(w:World)(x:jD)(da:Option Addr)(dc:Nat)(h:¬(1≤x.kind∧x.kind≤17)):
  Calls Tryz.prog 69 #[ptr p,.agg (opC x da dc)] w (fV w ([],30)):=by
 have e1:(x.kind==1)=false:=by simp;omega
 have e2:(x.kind==2)=false:=by simp;omega
 have e3:(x.kind==3)=false:=by simp;omega
 have e4:(x.kind==4)=false:=by simp;omega
 have e5:(x.kind==5)=false:=by simp;omega
 have e6:(x.kind==6)=false:=by simp;omega
 have e7:(x.kind==7)=false:=by simp;omega
 have e8:(x.kind==8)=false:=by simp;omega
 have e9:(x.kind==9)=false:=by simp;omega
 have e10:(x.kind==10)=false:=by simp;omega
 have e11:(x.kind==11)=false:=by simp;omega
 have e12:(x.kind==12)=false:=by simp;omega
 have e13:(x.kind==13)=false:=by simp;omega
 have e14:(x.kind==14)=false:=by simp;omega
 have e15:(x.kind==15)=false:=by simp;omega
 have e16:(x.kind==16)=false:=by simp;omega
 have e17:(x.kind==17)=false:=by simp;omega
 clear h;unfold opC;go_enter Tryz.func69,Tryz.ntmps69;go_wp2_with fail
 go_ret2
 exact⟨none,0,0,[],rfl,rfl,Nat.le_refl _,ah.nil _ _ _,⟨rfl,fun i q hq=>by simp at hq⟩,wall w _⟩
theorem FV(p:Nat)(w:World)(x:jD)(da:Option Addr)(dc:Nat)(hx:lY x)(m:Int)(hm:w.cell? ⟨0,0,none⟩=some (.int .i64 m)):
  Calls Tryz.prog 69 #[ptr p,.agg (opC x da dc)] w (fV w (eO x)):=by
 by_cases h:1≤x.kind∧x.kind≤17
 ·obtain⟨kd,pa,dD,fd,at_,n,aA,sn,dt⟩:=x;have h':1≤kd∧kd≤17:=h;have hp:pa.length<4294967281:=hx.wp;have hq:dD.length<4294967281:=hx.wq;have e:eO ⟨kd,pa,dD,fd,at_,n,aA,sn,dt⟩=fK (zq ⟨kd,pa,dD,fd,at_,n,aA,sn,dt⟩):=if_pos h;rw[e];rcases (show kd=1∨kd=2∨kd=3∨kd=4∨kd=5∨kd=6∨kd=7∨kd=8∨kd=9∨kd=10∨kd=11∨kd=12∨kd=13∨kd=14∨kd=15∨kd=16∨kd=17 by omega)with rfl|rfl|rfl|rfl|rfl|rfl|rfl|rfl|rfl|rfl|rfl|rfl|rfl|rfl|rfl|rfl|rfl
  all_goals first|exact Uk _ (by decide) p w pa dD fd at_ n aA sn dt da dc hp hq m hm|exact Un _ (by decide) p w pa dD fd at_ n aA sn dt da dc hp hq m hm|exact Um _ (by decide) p w pa dD fd at_ n aA sn dt da dc hp hq m hm
 ·have e:eO x=([],30):=if_neg h;rw[e];exact P_ p w x da dc h
inductive Bq (M:dS) (x:jD):dS→Prop
 |same:Bq M x M
 |make (ls:List Nm) (kind:Int):Bq M x (M.tr (b_ M.t ls kind).2)
 |create (ls:List Nm):0≤nT M→(b_ M.t ls 1).1.2=0→Bq M x (dS.put (M.tr (b_ M.t ls 1).2) (nT M).toNat (some ⟨true,(b_ M.t ls 1).1.1,[]⟩))
 |opens (T:aL) (ls:List Nm) (y:bP):jc M x.snap=some T→0≤nT M→(aQ T ls).2=0→aj (aQ T ls).1 T=some y→y.kind≠2→y.closed=true→Bq M x (M.put (nT M).toNat (some ⟨false,0,jZ T (aQ T ls).1 0 y.b.length⟩))
 |write (f:EL):jV M x.fd true=some f→Bq M x (M.tr (dw M.t f.id x.data).2)
 |closes (f:EL):x.kind=6→jV M x.fd true=some f→(eF M.t f.id x.aA).1=0→Bq M x (dS.put (M.tr (eF M.t f.id x.aA).2) x.fd.toNat none)
 |shut (f:EL):x.kind=6→jV M x.fd false=some f→Bq M x (M.put x.fd.toNat none)
 |link (p q:List Nm):Bq M x (M.tr (fM M.t p q).2)
 |unlink (ls:List Nm):(bU M.t ls).er=0→gY (bU M.t ls).k (bU M.t ls).l (bU M.t ls).u (bU M.t ls).c M.now=0→Bq M x (M.tr (bC M.t ls).2)
 |rmdir (ls:List Nm):Bq M x (M.tr (dP M.t ls).2)
 |rename (p q:List Nm):Bq M x (M.tr (bf M.t p q).2)
 |keep (ls:List Nm):(bU M.t ls).er=0→Bq M x (M.tr (eX M.t (bU M.t ls).i x.aA).2)
 |take:Bq M x (M.sn (gX M.s M.t).2)
 |forget:Bq M x (M.sn (iH M.s x.snap M.now).2)
 |tick:x.kind=16→Bq M x {M with now:=oW M.now x.aA}
section
variable{M:dS}{x:jD}
theorem Mq{T:aL}{id t:Int}(h:(eF T id t).1≠0):(eF T id t).2=T:=by
 unfold eF at h⊢;exact if_neg h
theorem Mr(ls:List Nm):Bq M x (jP M ls).2:=by
 unfold jP;by_cases h1:nT M<0
 ·rw[if_pos h1];exact .same
 ·rw[if_neg h1];by_cases h2:(b_ M.t ls 1).1.2≠0
  ·rw[if_pos h2];exact .make ls 1
  ·rw[if_neg h2];exact .create ls (by omega) (by simpa using h2)
theorem Uo(ls:List Nm):Bq M x (jq M ls x.snap).2:=by
 unfold jq;split
 ·exact .same
 ·rename_i T hT;split
  ·exact .same
  ·rename_i hf;unfold Du;split
   ·exact .same
   ·rename_i h2;split
    ·exact .same
    ·rename_i y hy;split
     ·exact .same
     ·rename_i h3;split
      ·exact .same
      ·rename_i h4;exact .opens T ls y hT (by omega) (by simpa using h2) hy h3 (by simpa using h4)
theorem Qa:Bq M x (jA M x).2:=by
 unfold jA;split
 ·exact .same
 ·rename_i f hf;split
  ·exact .same
  ·exact .write f hf
theorem Qb(h6:x.kind=6):Bq M x (jB M x).2:=by
 unfold jB;split
 ·rename_i f hf;split
  ·rename_i h2;have:=Mq h2;dsimp only;rw[this];exact .same
  ·rename_i h2;exact .closes f h6 hf (by simpa using h2)
 ·split
  ·exact .same
  ·rename_i f hf;exact .shut f h6 hf
theorem Ms(ls:List Nm):Bq M x (gG M ls).2:=by
 unfold gG;split
 ·exact .same
 ·split
  ·exact .same
  ·exact .unlink ls (by rename_i h1 h2;simpa using h1) (by rename_i h1 h2;simpa using h2)
theorem Uq(ls:List Nm):Bq M x (kS M ls x.aA).2:=by
 unfold kS;split
 ·exact .same
 ·split
  ·exact .same
  ·exact .keep ls (by rename_i h1 h2;simpa using h1)
theorem XB(M:dS)(x:jD):Bq M x (dH M x).2:=by
 unfold dH;by_cases h0:(eO x).2≠0
 ·rw[if_pos h0];exact .same
 rw[if_neg h0];unfold gH;by_cases h1:x.kind=1
 ·rw[if_pos h1];exact Mr _
 rw[if_neg h1];by_cases h2:x.kind=2
 ·rw[if_pos h2];exact .make _ _
 rw[if_neg h2];by_cases h3:x.kind=3
 ·rw[if_pos h3];exact Uo _
 rw[if_neg h3];by_cases h4:x.kind=4
 ·rw[if_pos h4];exact .same
 rw[if_neg h4];by_cases h5:x.kind=5
 ·rw[if_pos h5];exact Qa
 rw[if_neg h5];by_cases h6:x.kind=6
 ·rw[if_pos h6];exact Qb h6
 rw[if_neg h6];by_cases h7:x.kind=7
 ·rw[if_pos h7];exact .link _ _
 rw[if_neg h7];by_cases h8:x.kind=8
 ·rw[if_pos h8];exact Ms _
 rw[if_neg h8];by_cases h9:x.kind=9
 ·rw[if_pos h9];exact .rmdir _
 rw[if_neg h9];by_cases h10:x.kind=10
 ·rw[if_pos h10];exact .rename _ _
 rw[if_neg h10];by_cases h11:x.kind=11∨x.kind=12
 ·rw[if_pos h11];exact .same
 rw[if_neg h11];by_cases h13:x.kind=13
 ·rw[if_pos h13];exact Uq _
 rw[if_neg h13];by_cases h14:x.kind=14
 ·rw[if_pos h14];exact .take
 rw[if_neg h14];by_cases h15:x.kind=15
 ·rw[if_pos h15];exact .forget
 rw[if_neg h15];by_cases h16:x.kind=16
 ·rw[if_pos h16];exact .tick h16
 rw[if_neg h16];exact .same
theorem Ur(now tick:Int):now≤oW now tick:=by
 unfold oW;split
 ·split
  ·omega
  ·omega
 ·omega
theorem Bq.now{M':dS}(h:Bq M x M'):M.now≤M'.now∧(x.kind≠16→M'.now=M.now):=by
 cases h with
 |tick h16=>exact⟨Ur _ _,fun h=>absurd h16 h⟩
 |same=>exact⟨aa7 _,fun _=>rfl⟩
 |make ls kind=>exact⟨aa7 _,fun _=>rfl⟩
 |create ls h1 h2=>exact⟨aa7 _,fun _=>rfl⟩
 |opens T ls y h1 h2 h3 h4 h5 h6=>exact⟨aa7 _,fun _=>rfl⟩
 |write f h1=>exact⟨aa7 _,fun _=>rfl⟩
 |closes f h1 h2 h3=>exact⟨aa7 _,fun _=>rfl⟩
 |shut f h1 h2=>exact⟨aa7 _,fun _=>rfl⟩
 |link p q=>exact⟨aa7 _,fun _=>rfl⟩
 |unlink ls h1 h2=>exact⟨aa7 _,fun _=>rfl⟩
 |rmdir ls=>exact⟨aa7 _,fun _=>rfl⟩
 |rename p q=>exact⟨aa7 _,fun _=>rfl⟩
 |keep ls h1=>exact⟨aa7 _,fun _=>rfl⟩
 |take=>exact⟨aa7 _,fun _=>rfl⟩
 |forget=>exact⟨aa7 _,fun _=>rfl⟩
theorem Us(M:dS):nT M= -1∨∃n:Nat,n<8∧nT M=n∧M.fds n=none:=by
 unfold nT;split
 ·rename_i n hn;have h1:=acr hn;have h2:=List.find?_some hn;rw[ab6]at h1;exact .inr ⟨n,h1,rfl,by cases hf:M.fds n with|none=>rfl|some f=>rw[hf]at h2;cases h2⟩
 ·exact .inl rfl
theorem Au(M:dS){n m:Nat}(f:Option EL)(h:m≠n):(M.put n f).fds m=M.fds m:=if_neg h
theorem Bq.fd{M':dS}(h:Bq M x M'){n:Nat}{f:EL}(hf:M.fds n=some f)(hx:¬(x.kind=6∧x.fd.toNat=n)):M'.fds n=some f:=by
 have hfree:∀g,0≤nT M→(M.put (nT M).toNat g).fds n=some f:=fun g h0=>by
  rcases Us M with e|⟨m,h1,h2,h3⟩
  ·omega
  ·rw[Au _ _ (fun e=>by rw[h2]at e;simp at e;subst e;rw[h3]at hf;cases hf)];exact hf
 cases h with
 |create ls h1 h2=>exact hfree _ h1
 |opens T ls y h1 h2 h3 h4 h5 h6=>exact hfree _ h2
 |closes g h1 h2 h3=>rw[Au _ _ (fun e=>hx ⟨h1,e.symm⟩)];exact hf
 |shut g h1 h2=>rw[Au _ _ (fun e=>hx ⟨h1,e.symm⟩)];exact hf
 |same=>exact hf
 |make ls kind=>exact hf
 |write g h1=>exact hf
 |link p q=>exact hf
 |unlink ls h1 h2=>exact hf
 |rmdir ls=>exact hf
 |rename p q=>exact hf
 |keep ls h1=>exact hf
 |take=>exact hf
 |forget=>exact hf
 |tick h1=>exact hf
end
structure Zo(i j k l n:Nat):Prop where
 mm:Mk i j k l
 ne:n≠0∧n≠i∧n≠j∧n≠k∧n≠l
def mH(o:Mark)(i j k l n:Nat)(w:World)(p:Nat)(q:rZ×dS)(e:Ending)(w':World):Prop:=
 ∃o',xZ o' q.1 e w'∧Step o (fun m=>m=i∨m=j∨m=k∨m=l∨m=n) w o' w'∧bZ o' i j k w' p q.2
structure kD(W:World)(o:Mark)(i j k l n:Nat)(w:World)(p:Nat)(x:jD)(da:Option Addr)(dc:Nat)(o1:Mark)(w3:World)(M:dS):Prop where
 mm:Zo i j k l n
 st:bZ o1 i j k w3 p M
 marks:Marks W o1 w3
 step:Step o (fun m=>m=i∨m=j∨m=k∨m=l∨m=n) w o1 w3
 op:w3.heap[w.heap.size]? =some (.cells (opC x da dc) 30 (0,0))
 re:w3.heap[w.heap.size+1]? =some (.cells (eu (bR 0) none none 0 0) 41 (0,0))
 om:o1 w.heap.size=0
 rm:o1 (w.heap.size+1)=n
section
variable{W w w3 w4 w5:World}{o o1 o4:Mark}{i j k l n p:Nat}{M M':dS}{x:jD}{da:Option Addr}{dc:Nat}
theorem kD.start(hk:Zo i j k l n)(hS:bZ o i j k w p M)(hM:Marks W o w)(x:jD)(da:Option Addr)(dc:Nat):∃o1,kD W o i j k l n w p x da dc o1 ((w.alloc (.cells (opC x da dc) 30)).alloc (.cells (eu (bR 0) none none 0 0) 41)) M:=by
 obtain⟨w2,hw2⟩:∃w2,w2=(w.alloc (.cells (opC x da dc) 30)).alloc (.cells (eu (bR 0) none none 0 0) 41):=⟨_,rfl⟩;have hb2:Below w.heap.size w w2:=by rw[hw2];exact(wall w _).trans ((wall _ _).mono (by simp))
 have hop:w2.heap[w.heap.size]? =some (.cells (opC x da dc) 30 (0,0)):=by
  rw[hw2];exact((wall _ _).block _ (by simp)).trans (MapKept.heap_alloc w _).1
 have hre:w2.heap[w.heap.size+1]? =some (.cells (eu (bR 0) none none 0 0) 41 (0,0)):=by
  rw[hw2];have:=(MapKept.heap_alloc (w.alloc (.cells (opC x da dc) 30)) (.cells (eu (bR 0) none none 0 0) 41)).1;rw[aad]at this;exact this
 rw[←hw2];obtain⟨m0,m1,m2,m3,m4⟩:=hk.ne;obtain⟨o1,hs1,hl1,hl2⟩:=gW hM n (fun b=>b=w.heap.size+1) (w':=w2) (fun b hb=>by subst hb;exact⟨by omega,(iA.1 hre).1⟩) hb2;exact⟨o1,hk,hS.step (fun e=>m0 e.symm) (fun e=>m1 e.symm) (fun e=>m2 e.symm) (fun e=>m3 e.symm) hs1,hM.step (fun e=>m0 e.symm) hs1,hs1.mono fun m hm=> .inr (.inr (.inr (.inr hm))),hop,hre,(hl2 w.heap.size (by omega)).trans (aaj fun h9=>by have:=(hM.new _ h9).2;omega),hl1 _ rfl⟩
theorem kD.n0(hk:Zo i j k l n):¬((0:Nat)=i∨0=j∨0=k∨0=l):=by
 obtain⟨n1,n2,n3,n4,-⟩:=hk.mm.ne;omega
theorem kD.grow(h:kD W o i j k l n w p x da dc o1 w3 M)(hb:Below w3.heap.size w3 w4):kD W o i j k l n w p x da dc o1 w4 M:=
 ⟨h.mm,h.st.grow h.marks hb,h.marks.grow hb,h.step.trans (Step.grow h.marks hb),(hb.block _ (iA.1 h.op).1).trans h.op,(hb.block _ (iA.1 h.re).1).trans h.re,h.om,h.rm⟩
theorem kD.turn(h:kD W o i j k l n w p x da dc o1 w3 M)(hs:Step o1 (fun m=>m=i∨m=j∨m=k∨m=l) w3 o4 w4)(hS:bZ o4 i j k w4 p M'):kD W o i j k l n w p x da dc o4 w4 M':=by
 obtain⟨m0,m1,m2,m3,m4⟩:=h.mm.ne;have h0:=kD.n0 h.mm;have hr:=(iA.1 h.re).1;have hp:=(iA.1 h.op).1;refine⟨h.mm,hS,h.marks.step h0 hs,h.step.trans (hs.mono fun m hm=>by omega),(hs.block hp (by rw[h.om];exact h0)).trans h.op,(hs.block hr (by rw[h.rm];omega)).trans h.re,(hs.old _ hp).trans h.om,(hs.old _ hr).trans h.rm⟩
theorem kD.stays(h:kD W o i j k l n w p x da dc o1 w3 M)(hs:Step o1 (fun m=>m=i∨m=j∨m=k∨m=l) w3 o4 w4){b:Nat}(hb:o1 b=0∧b<w3.heap.size):w4.heap[b]? =w3.heap[b]? :=hs.block hb.2 (by rw[hb.1];exact kD.n0 h.mm)
theorem kD.opb(h:kD W o i j k l n w p x da dc o1 w3 M):o1 w.heap.size=0∧w.heap.size<w3.heap.size:=⟨h.om,(iA.1 h.op).1⟩
theorem kD.qQ(h:kD W o i j k l n w p x da dc o1 w3 M):∃t,w3.cell? ⟨p,0,none⟩=some (ptr t)∧fO o1 j w3 t M.t∧∀o4 w4 T',Step o1 (fun m=>m=j) w3 o4 w4→fO o4 j w4 t T'→kD W o i j k l n w p x da dc o4 w4 (M.tr T')∧w4.heap[p]? =w3.heap[p]? :=by
 obtain⟨t,s,v,h1,h2,h3,h4⟩:=h.st.at_;obtain⟨n1,n2,n3,n4,n5,n6,n7,n8,n9,n10⟩:=h.mm.mm.ne;exact⟨t,(gF h1).1,h3,fun o4 w4 T' hs hT=>⟨h.turn (hs.mono fun m hm=> .inr (.inl hm)) (bZ.tree (M:=M) h.mm.mm h1 h2 h4 h.st.own h.st.low hs hT),hs.block h.st.low (by rw[h.st.own];exact fun e=>n8 e.symm)⟩⟩
theorem kD.DK(h:kD W o i j k l n w p x da dc o1 w3 M):∃t s,w3.cell? ⟨p,0,none⟩=some (ptr t)∧w3.cell? ⟨p,1,none⟩=some (ptr s)∧w3.cell? ⟨p,2,none⟩=some (.int .u64 M.now)∧fO o1 j w3 t M.t∧iF o1 i w3 s M.s∧∀o4 w4 S',Step o1 (fun m=>m=i) w3 o4 w4→iF o4 i w4 s S'→kD W o i j k l n w p x da dc o4 w4 (M.sn S')∧w4.heap[p]? =w3.heap[p]? :=by
 obtain⟨t,s,v,h1,h2,h3,h4⟩:=h.st.at_;obtain⟨n1,n2,n3,n4,n5,n6,n7,n8,n9,n10⟩:=h.mm.mm.ne;obtain⟨z0,z1,z2,-⟩:=gF h1;refine⟨t,s,z0,z1,z2,h3,h2,fun o4 w4 S' hs hS=> ?_⟩;have h0:¬(fun m=>m=i) 0:=fun e=>n1 e.symm;have hpb:=hs.block h.st.low (by rw[h.st.own];exact fun e=>n6 e.symm);exact⟨h.turn (hs.mono fun m hm=> .inl hm) ⟨⟨t,s,v,hpb.trans h1,hS,h3.step h0 (fun e=>n5 e.symm) hs,fun q hq=>(h4 q hq).step h0 hs⟩,(hs.old p h.st.low).trans h.st.own,Pd h.st.low hs.keep.size⟩,hpb⟩
theorem kD.clock(h:kD W o i j k l n w p x da dc o1 w3 M)(u:Int):w3.cell? ⟨p,2,none⟩=some (.int .u64 M.now)∧w3.frozen? ⟨p,2,none⟩=false∧kD W o i j k l n w p x da dc o1 (w3.setCell ⟨p,2,none⟩ (.int .u64 u)) {M with now:=u}:=by
 obtain⟨n1,n2,n3,n4,n5,n6,n7,n8,n9,n10⟩:=h.mm.mm.ne;obtain⟨t,s,v,h1,h2,h3,h4⟩:=h.st.at_;obtain⟨z0,z1,z2,z3,z4⟩:=gF h1;have hz:=size_set w3 ⟨p,2,none⟩ (.int .u64 u);have hst:Step o1 (fun m=>m=k) w3 o1 (w3.setCell ⟨p,2,none⟩ (.int .u64 u)):=⟨fun _ _=>rfl,fun b hb hn=>absurd (h.marks.new b hn).2 (by omega),(Keeps.f_ w3 ⟨p,2,none⟩ _).mono fun x _ hx=>by
  have hx:x=p:=hx;rw[hx];exact h.st.own⟩
 have h0:¬(fun m=>m=k) 0:=fun e=>n3 e.symm;refine⟨z2,z4 2,h.turn (hst.mono fun m hm=> .inr (.inr (.inl hm))) ⟨⟨t,s,v,?_,h2.step h0 n6 hst,h3.step h0 n8 hst,fun m hm=>(h4 m hm).step h0 hst⟩,h.st.own,by have:=h.st.low;omega⟩⟩;have:=aI (i:=2) (v:= .int .u64 u) h1;rw[st_now]at this;exact this
theorem Qc(a b:Int)(w:World):Calls Tryz.prog 85 #[.int .u64 a,.int .u64 b] w fun e w'=>e= .returned (.int .u64 (oW a b))∧Below w.heap.size w w':=by
 refine(T9 a b w).mono ?_;rintro e w' ⟨rfl,rfl⟩;refine⟨?_,Below.refl _ _⟩;have:Dw a b=oW a b:=by
  unfold Dw oW;split
  ·by_cases h:a≤b
   ·rw[if_pos h];omega
   ·rw[if_neg h];omega
  ·rfl
 rw[this]
theorem kD.fin{r:rZ}{Av Aw:Option Addr}{Ay Az:Nat}(h:kD W o i j k l n w p x da dc o1 w4 M)(hs:jo w4 (w.heap.size+1) (eu r Av Aw Ay Az) 41 w5)(k1:r.data.length≤Ay)(k2:r.names.length≤Az)(k3:ah (Free o1 w4) w4 Av r.data.length (r.data.map bv))(k4:aK (Free o1 w4) w4 Aw r.names.length (r.names.map strOf)):
  mH o i j k l n w p (r,M) (.returned (.agg (eu r Av Aw Ay Az))) w5:=by
 obtain⟨m0,m1,m2,m3,m4⟩:=h.mm.ne;have hst:=hs.step h.marks h.rm;have hn0:¬(fun m=>m=n) 0:=fun e=>m0 e.symm;exact⟨o1,⟨_,rfl,Av,Aw,Ay,Az,rfl,k1,k2,k3.free hn0 hst,⟨k4.row.free hn0 hst,k4.short⟩⟩,h.step.trans (hst.mono fun m hm=> .inr (.inr (.inr (.inr hm)))),h.st.step hn0 (fun e=>m1 e.symm) (fun e=>m2 e.symm) (fun e=>m3 e.symm) hst⟩
theorem kD.zw{r:rZ}(h:kD W o i j k l n w p x da dc o1 w4 M)(hs:jo w4 (w.heap.size+1) (eu r none none 0 0) 41 w5)(k1:r.data=[])(k2:r.names=[]):
  mH o i j k l n w p (r,M) (.returned (.agg (eu r none none 0 0))) w5:=
 h.fin hs (by rw[k1];exact Nat.le_refl _) (by rw[k2];exact Nat.le_refl _) (by rw[k1];exact ah.nil _ _ _) (by rw[k2];exact jO _ _)
end
theorem wQ{a:List UInt8}(h:(aC a).2=0):(aC a).1.length≤8:=by
 cases a with
 |nil=>simp[aC]
 |cons c r=>
  by_cases hc:c≠47
  ·simp[aC,hc]
  ·by_cases hr:r=[]
   ·have e:aC (c::r)=([],0):=by unfold aC;dsimp only;rw[if_neg hc,if_pos hr]
    rw[e];simp
   ·by_cases hf:bg (bM r)=0
    ·have e:aC (c::r)=(bM r,0):=by unfold aC;dsimp only;rw[if_neg hc,if_neg hr,if_pos hf]
     rw[e];unfold bg at hf;split at hf
     ·simp at hf
     ·split at hf
      ·simp at hf
      ·dsimp only;omega
    ·have e:aC (c::r)=([],bg (bM r)):=by unfold aC;dsimp only;rw[if_neg hc,if_neg hr,if_neg hf]
     rw[e];simp
theorem fV.zero{w w':World}{e:Ending}{er:Int}(h:fV w ([],er) e w'):∃a c,e= .returned (.tuple #[.slice a 0 c,.int .i64 er])∧Below w.heap.size w w':=by
 obtain⟨a,n,c,vs,h1,h2,h3,h4,h5,h6⟩:=h;have h2:n=0:=h2;subst h2;exact⟨a,c,h1,h6⟩
structure Qd(B:Nat)(w:World)(b off:Nat)(q:List Nm)(a0:Option Addr)(c0:Nat):Prop where
 cell:w.cell? ⟨b,off,none⟩=some (.slice a0 q.length c0)
 cap:q.length≤c0
 strs:aK (fun b=>B≤b∧b<w.heap.size) w a0 q.length (q.map strOf)
theorem fV.one{w w':World}{e:Ending}{q:List Nm}(h:fV w ([q],0) e w'):∃b off c a0 c0,e= .returned (.tuple #[.slice (some ⟨b,off,none⟩) 1 c,.int .i64 0])∧w.heap.size≤b∧b<w'.heap.size∧Qd w.heap.size w' b off q a0 c0∧Below w.heap.size w w':=by
 obtain⟨a,n,c,vs,h1,h2,h3,h4,h5,h6⟩:=h;have h2:n=1:=h2;subst h2;obtain⟨b,off,rfl,hb,hbw,hc⟩:=h4.at_ (by omega);obtain⟨u,hu,a0,c0,rfl,k2,k3⟩:=h5.2 0 q rfl;exact⟨b,off,c,a0,c0,h1,hb.1,hbw,⟨(hc 0 (by omega)).trans hu,k2,k3⟩,h6⟩
theorem fV.two{w w':World}{e:Ending}{q q':List Nm}(h:fV w ([q,q'],0) e w'):∃b off c a0 c0 a1 c1,e= .returned (.tuple #[.slice (some ⟨b,off,none⟩) 2 c,.int .i64 0])∧w.heap.size≤b∧b<w'.heap.size∧Qd w.heap.size w' b off q a0 c0∧Qd w.heap.size w' b (off+1) q' a1 c1∧Below w.heap.size w w':=by
 obtain⟨a,n,c,vs,h1,h2,h3,h4,h5,h6⟩:=h;have h2:n=2:=h2;subst h2;obtain⟨b,off,rfl,hb,hbw,hc⟩:=h4.at_ (by omega);obtain⟨u,hu,a0,c0,rfl,k2,k3⟩:=h5.2 0 q rfl;obtain⟨u',hu',a1,c1,rfl,k2',k3'⟩:=h5.2 1 q' rfl;exact⟨b,off,c,a0,c0,a1,c1,h1,hb.1,hbw,⟨(hc 0 (by omega)).trans hu,k2,k3⟩,⟨(hc 1 (by omega)).trans hu',k2',k3'⟩,h6⟩
theorem Mt{a:List UInt8}(h:(fK [a]).2=0):fK [a]=([(aC a).1],0)∧(aC a).2=0:=by
 unfold fK at h⊢;by_cases h1:(aC a).2≠0
 ·rw[if_pos h1]at h;exact absurd h h1
 ·rw[if_neg h1];exact⟨rfl,by simpa using h1⟩
theorem Mv{a b:List UInt8}(h:(fK [a,b]).2=0):fK [a,b]=([(aC a).1,(aC b).1],0)∧(aC a).2=0∧(aC b).2=0:=by
 by_cases h1:(aC a).2=0
 ·by_cases h2:(aC b).2=0
  ·refine⟨qP _ fun t ht=> ?_,h1,h2⟩;simp only[aay,aaW,abT]at ht;rcases ht with rfl|rfl
   ·exact h1
   ·exact h2
  ·rw[kF [a,b] 1 b rfl (fun x hx=>by simp at hx;rw[hx];exact h1) h2]at h;exact absurd h h2
 ·rw[kF [a,b] 0 a rfl (fun x hx=>by simp at hx) h1]at h;exact absurd h h1
theorem eU{P:Program}{ops:Array Oper}{o:Oper}{a:Act}{w:World}{K:Act→World→Prop}{Q:Exit→Act→World→Prop}{E:Prop}(hgd:o.guard=none)(ty:TypeId)(x y:Operand)(ho:o.op= .store ty x y)
  (g:Nat)(cells:Array Value)(hx:a.eval x= .pointer (some ⟨g,0,none⟩))(hy:a.eval y= .agg cells)
  (old:Array Value)(hg:w.heap[g]? =some (.cells old ty (0,0)))(hi:(P.info? ty).map (·.size)=some cells.size)
  (hold:old.size=cells.size)(h1:cells.all (·.oneCell')=true)
  (h:∀w',jo w g cells ty w'→K (a.put o.dst undef) w'):if Region.wanted o (yielded ops a.tmps)=true then Oper.wp P o a w K Q else E:=by
 have hw:Region.wanted o (yielded ops a.tmps)=true:=by simp[Region.wanted,hgd]
 rw[if_pos hw];exact wp_store_row ty x y ho g cells hx hy ty old hg hi hold h1 (h _ (Dp w g old cells ty hg))
structure uh(S:Nat→Prop)(W:World)(o:Mark)(i j k l n:Nat)(w:World)(p:Nat)(M:dS)(cc:Int)(x:jD)(da:Option Addr)(dc:Nat)(m:Int):Prop where
 st:bZ o i j k w p M
 marks:Marks W o w
 m5:Zo i j k l n
 ok:gK cc M
 few:cc≤1000000000
 op:lY x
 row:ah S w da x.data.length (x.data.map bv)
 max:w.cell? ⟨0,0,none⟩=some (.int .i64 m)
 paths:(eO x).2=0
section
variable{W w w2 w3:World}{o o1:Mark}{i j k l n p:Nat}{M:dS}{x:jD}{da:Option Addr}{dc:Nat}{S:Nat→Prop}{cc m:Int}{e:Ending}{q q':List Nm}
theorem uh.pre(h:uh S W o i j k l n w p M cc x da dc m):∃o1 w2,acB (kD W o i j k l n w p x da dc o1 w2 M)∧acB (ah S w2 da x.data.length (x.data.map bv))∧acB (Calls Tryz.prog 69 #[ptr p,.agg (opC x da dc)] ((w.alloc (.cells (opC x da dc) 30)).alloc (.cells (eu (bR 0) none none 0 0) 41)) (fV w2 (eO x)))∧acB (gK cc M)∧acB (lY x)∧acB (Zo i j k l n)∧cc≤1000000000:=by
 obtain⟨o1,hd2⟩:=kD.start h.m5 h.st h.marks x da dc;have hb2:Below w.heap.size w ((w.alloc (.cells (opC x da dc) 30)).alloc (.cells (eu (bR 0) none none 0 0) 41)):=(wall w _).trans ((wall _ _).mono (by simp));exact⟨o1,_,hd2,h.row.below hb2 acC,FV p _ x da dc h.op m ((hb2.cell (p:=⟨0,0,none⟩) (aag w _ h.max)).trans h.max),h.ok,h.op,h.m5,h.few⟩
theorem kD.none_(h:kD W o i j k l n w p x da dc o1 w2 M)(hr:fV w2 ([],0) e w3)(hd:ah S w2 da x.data.length (x.data.map bv)):∃a3 c3,e= .returned (.tuple #[.slice a3 0 c3,.int .i64 0])∧acB (kD W o i j k l n w p x da dc o1 w3 M)∧acB (Below w2.heap.size w2 w3)∧acB (ah S w3 da x.data.length (x.data.map bv))∧w3.cell? ⟨w.heap.size,0,none⟩=some (.int .i64 x.kind):=by
 obtain⟨a3,c3,he,hb⟩:=hr.zero;have h3:=h.grow hb;exact⟨a3,c3,he,h3,hb,hd.below hb acC,by simp[World.cell?,h3.op,opC]⟩
theorem kD.one(h:kD W o i j k l n w p x da dc o1 w2 M)(hr:fV w2 ([q],0) e w3)(hd:ah S w2 da x.data.length (x.data.map bv)):∃b off c3 a0 c0,e= .returned (.tuple #[.slice (some ⟨b,off,none⟩) 1 c3,.int .i64 0])∧acB (kD W o i j k l n w p x da dc o1 w3 M)∧acB (Below w2.heap.size w2 w3)∧acB (o1 b=0∧b<w3.heap.size)∧acB (Qd w2.heap.size w3 b off q a0 c0)∧acB (ah S w3 da x.data.length (x.data.map bv))∧w3.cell? ⟨w.heap.size,0,none⟩=some (.int .i64 x.kind)∧w3.cell? ⟨b,off,none⟩=some (.slice a0 q.length c0):=by
 obtain⟨b,off,c3,a0,c0,he,hb0,hbw,hn,hb⟩:=hr.one;have h3:=h.grow hb;exact⟨b,off,c3,a0,c0,he,h3,hb,⟨aaj fun h0=>by have:=(h.marks.new b h0).2;omega,hbw⟩,hn,hd.below hb acC,by simp[World.cell?,h3.op,opC],hn.cell⟩
theorem kD.two(h:kD W o i j k l n w p x da dc o1 w2 M)(hr:fV w2 ([q,q'],0) e w3)(hd:ah S w2 da x.data.length (x.data.map bv)):∃b off c3 a0 c0 a1 c1,e= .returned (.tuple #[.slice (some ⟨b,off,none⟩) 2 c3,.int .i64 0])∧acB (kD W o i j k l n w p x da dc o1 w3 M)∧acB (Below w2.heap.size w2 w3)∧acB (o1 b=0∧b<w3.heap.size)∧acB (Qd w2.heap.size w3 b off q a0 c0)∧acB (Qd w2.heap.size w3 b (off+1) q' a1 c1)∧acB (ah S w3 da x.data.length (x.data.map bv))∧w3.cell? ⟨w.heap.size,0,none⟩=some (.int .i64 x.kind)∧w3.cell? ⟨b,off,none⟩=some (.slice a0 q.length c0)∧w3.cell? ⟨b,off+1,none⟩=some (.slice a1 q'.length c1):=by
 obtain⟨b,off,c3,a0,c0,a1,c1,he,hb0,hbw,hn,hn',hb⟩:=hr.two;have h3:=h.grow hb;exact⟨b,off,c3,a0,c0,a1,c1,he,h3,hb,⟨aaj fun h0=>by have:=(h.marks.new b h0).2;omega,hbw⟩,hn,hn',hd.below hb acC,by simp[World.cell?,h3.op,opC],hn.cell,hn'.cell⟩
theorem uj(M:dS)(e:eO x=([],0)):dH M x=gH M x [] []:=by unfold dH;rw[e];rfl
theorem vO(M:dS)(e:eO x=fK [x.path])(hp:(eO x).2=0):∃q0,eO x=([q0],0)∧dH M x=gH M x q0 []∧q0.length≤8:=by
 rw[e]at hp;obtain⟨h1,h2⟩:=Mt hp;exact⟨_,e.trans h1,by unfold dH;rw[e,h1];rfl,wQ h2⟩
theorem Ut(M:dS)(e:eO x=fK [x.path,x.dD])(hp:(eO x).2=0):∃q0 q1,eO x=([q0,q1],0)∧dH M x=gH M x q0 q1∧q0.length≤8∧q1.length≤8:=by
 rw[e]at hp;obtain⟨h1,h2,h3⟩:=Mv hp;exact⟨_,_,e.trans h1,by unfold dH;rw[e,h1];rfl,wQ h2,wQ h3⟩
end
section
variable{W w:World}{o:Mark}{i j k l n p:Nat}{M:dS}{S:Nat→Prop}{cc m:Int}{pa dD:List UInt8}{fd at_ nn aA sn:Int}{dt:List UInt8}{da:Option Addr}{dc:Nat}
theorem sdo_k1(h:uh S W o i j k l n w p M cc ⟨1,pa,dD,fd,at_,nn,aA,sn,dt⟩ da dc m):
  Calls Tryz.prog 25 #[ptr p,.agg (opC ⟨1,pa,dD,fd,at_,nn,aA,sn,dt⟩ da dc)] w (mH o i j k l n w p (dH M ⟨1,pa,dD,fd,at_,nn,aA,sn,dt⟩)):=by
 obtain⟨o1,w2,HD2,jE,iK,iM,HX,HK,hcc⟩:=h.pre;obtain⟨q0,hps,hsd,h80⟩:=vO M rfl h.paths;rw[hps]at iK;unfold opC eu bR at iK;dsimp only[List.length_nil]at iK jE;have fq:=acA hsd;clear h hps hsd;unfold opC;go_enter aaV,aaP;go_wp2_with fail;refine iK.o.mono ?_;clear iK;intro e w3 hpr;obtain⟨b,off,c3,a0,c0,rfl,HD,HB3,G9,yV,kW,g0,hc0⟩:=HD2.o.one hpr jE.o;dsimp only at g0 kW;clear hpr HD2 jE;have hsd:dH M ⟨1,pa,dD,fd,at_,nn,aA,sn,dt⟩=jP M q0:=fq.o;replace fq:=acA hsd;clear hsd;obtain⟨rr,hrr⟩:∃rr,rr=jP M q0:=⟨_,rfl⟩;have HC:=acA (JU HD.o.st HD.o.marks HD.o.mm.mm iM.o.t.1 a0 q0.length c0 q0 yV.o.strs yV.o.cap (by omega));rw[←hrr]at HC;rw[←hrr]at fq;clear hrr;go_wp2_with fail;refine HC.o.mono ?_;rintro e w4 ⟨o4,⟨v4,rfl,Av,Aw,Ay,Az,rfl,k1,k2,k3,k4⟩,hs4,oh⟩;have HD4:=acA (HD.o.turn hs4 oh);have tK:=acA (And.intro k1 (And.intro k2 (And.intro k3 k4)));clear k1 k2 k3 k4 hs4 oh HC;go_wp2_with (refine ak (by rfl) 41 _ _ (by rfl) (w.heap.size+1) (eu (rr.1) Av Aw Ay Az) (by rfl) (by rfl) _ HD4.o.re bH rfl (bI _ _ _ _ _) ?_;intro w5 hs5;have dB:=acA hs5;clear hs5);exact bX rfl rfl rfl dB.o.1 (by rw[fq.o];exact HD4.o.fin dB.o tK.o.1 tK.o.2.1 tK.o.2.2.1 tK.o.2.2.2)
theorem sdo_k2(h:uh S W o i j k l n w p M cc ⟨2,pa,dD,fd,at_,nn,aA,sn,dt⟩ da dc m):
  Calls Tryz.prog 25 #[ptr p,.agg (opC ⟨2,pa,dD,fd,at_,nn,aA,sn,dt⟩ da dc)] w (mH o i j k l n w p (dH M ⟨2,pa,dD,fd,at_,nn,aA,sn,dt⟩)):=by
 obtain⟨o1,w2,HD2,jE,iK,iM,HX,HK,hcc⟩:=h.pre;obtain⟨q0,hps,hsd,h80⟩:=vO M rfl h.paths;rw[hps]at iK;unfold opC eu bR at iK;dsimp only[List.length_nil]at iK jE;have fq:=acA hsd;clear h hps hsd;unfold opC;go_enter aaV,aaP;go_wp2_with fail;refine iK.o.mono ?_;clear iK;intro e w3 hpr;obtain⟨b,off,c3,a0,c0,rfl,HD,HB3,G9,yV,kW,g0,hc0⟩:=HD2.o.one hpr jE.o;dsimp only at g0 kW;clear hpr HD2 jE;have nR:=acA (HD.o.grow acD.drew);have tZ:=nR.o.marks;have yh:=acA (yV.o.strs.below acD.drew acC);obtain⟨t,z0,wJ,htr⟩:=nR.o.qQ;have Mw:w3.cell? ⟨p,0,none⟩=some (ptr t):=z0;have tY:=acA htr;have hsd:dH M ⟨2,pa,dD,fd,at_,nn,aA,sn,dt⟩=(bR (b_ M.t q0 2).1.2,M.tr (b_ M.t q0 2).2):=fq.o;replace fq:=acA hsd;clear hsd;have HC:=acA (NH wJ tZ HK.o.mm.ne.2.1 iM.o.t.1 a0 q0.length c0 q0 2 yh.o yV.o.cap (by omega));obtain⟨rr,hrr⟩:∃rr,rr=b_ M.t q0 2:=⟨_,rfl⟩;rw[←hrr]at HC fq;clear hrr htr wJ tZ z0;go_wp2_with fail;refine yG ((fun w'=>w'.cell? ⟨p,0,none⟩=some (ptr t)∧w'.cell? ⟨b,off,none⟩=some (.slice a0 q0.length c0))) ?_ fun hS=> ?_
 ·exact⟨Mw,hc0⟩
 refine aP 0 hS ?_;refine aP 1 hS ?_;refine aP 2 hS ?_;refine aP 3 hS ?_;refine aP 4 hS ?_;refine aP 5 hS ?_;refine aP 6 hS ?_;refine qh 7 fun K hK=> ?_;go_simp;refine HC.o.mono ?_;rintro e w4 ⟨rfl,o4,hs4,kV⟩;obtain⟨hd4,t_⟩:=tY.o _ _ _ hs4 kV;have HD4:=acA hd4;have hb4:w4.heap[b]? =w3.heap[b]? :=nR.o.stays (hs4.mono fun m hm=> .inr (.inl hm)) G9.o;have um:w4.heap[p]? =w3.heap[p]? :=t_;clear hd4 hs4 kV t_ HC;have jk:acB ((fun w'=>w'.cell? ⟨p,0,none⟩=some (ptr t)∧w'.cell? ⟨b,off,none⟩=some (.slice a0 q0.length c0)) w4):=⟨(Pe um).trans Mw,(Pe hb4).trans hc0⟩;clear hb4 um;go_wp2_with fail;refine pW hK (jk.o) fun hS=> ?_;clear hK K;refine aP 8 hS ?_;refine aP 9 hS ?_;refine aP 10 hS ?_;refine aP 11 hS ?_;refine aP 12 hS ?_;refine xW ?_;go_wp2_with fail;refine(iZ _ _).mono ?_;rintro e w9 ⟨rfl,cO⟩;unfold mG;have Br:=acA (HD4.o.grow cO);clear cO;go_wp2_with (refine ak (by rfl) 41 _ _ (by rfl) (w.heap.size+1) (eu (bR (rr.1.2)) none none 0 0) (by rfl) (by rfl) _ Br.o.re bH rfl (bI _ _ _ _ _) ?_;intro w5 hs5;have dB:=acA hs5;clear hs5);exact bX rfl rfl rfl dB.o.1 (by rw[fq.o];exact Br.o.zw dB.o rfl rfl)
theorem sdo_k3(h:uh S W o i j k l n w p M cc ⟨3,pa,dD,fd,at_,nn,aA,sn,dt⟩ da dc m):
  Calls Tryz.prog 25 #[ptr p,.agg (opC ⟨3,pa,dD,fd,at_,nn,aA,sn,dt⟩ da dc)] w (mH o i j k l n w p (dH M ⟨3,pa,dD,fd,at_,nn,aA,sn,dt⟩)):=by
 obtain⟨o1,w2,HD2,jE,iK,iM,HX,HK,hcc⟩:=h.pre;obtain⟨q0,hps,hsd,h80⟩:=vO M rfl h.paths;rw[hps]at iK;unfold opC eu bR at iK;dsimp only[List.length_nil]at iK jE;have fq:=acA hsd;clear h hps hsd;unfold opC;go_enter aaV,aaP;go_wp2_with fail;refine iK.o.mono ?_;clear iK;intro e w3 hpr;obtain⟨b,off,c3,a0,c0,rfl,HD,HB3,G9,yV,kW,g0,hc0⟩:=HD2.o.one hpr jE.o;dsimp only at g0 kW;clear hpr HD2 jE;have nR:=acA (HD.o.grow acD.drew);have tZ:=nR.o.marks;have yh:=acA (yV.o.strs.below acD.drew acC);have hsd:dH M ⟨3,pa,dD,fd,at_,nn,aA,sn,dt⟩=jq M q0 sn:=fq.o;replace fq:=acA hsd;clear hsd;have HC:=acA (PW nR.o.st tZ HK.o.mm iM.o.t.1 (by have:=iM.o.s.few;omega) a0 q0.length c0 q0 yh.o sn (fun T hT=>zo (iM.o.G8 hT).1 q0));obtain⟨rr,hrr⟩:∃rr,rr=jq M q0 sn:=⟨_,rfl⟩;have g7:w3.cell? ⟨w.heap.size,7,none⟩=some (.int .i64 sn):=by simp[World.cell?,HD.o.op,opC]
 rw[←hrr]at HC fq;clear hrr tZ;go_wp2_with fail;refine qA 7 ((fun w'=>w'.cell? ⟨b,off,none⟩=some (.slice a0 q0.length c0)∧w'.cell? ⟨w.heap.size,7,none⟩=some (.int .i64 sn))) ?_ fun hS=> ?_
 ·exact⟨hc0,g7⟩
 refine au 0 hS ?_;refine au 1 hS ?_;refine au 2 hS ?_;refine au 3 hS ?_;refine au 4 hS ?_;refine au 5 hS ?_;refine bB 6 fun K hK=> ?_;go_simp;refine HC.o.mono ?_;rintro e w4 ⟨o4,⟨v4,rfl,Av,Aw,Ay,Az,rfl,k1,k2,k3,k4⟩,hs4,oh⟩;have HD4:=acA (nR.o.turn hs4 oh);have tK:=acA (And.intro k1 (And.intro k2 (And.intro k3 k4)));have hb4:w4.heap[b]? =w3.heap[b]? :=nR.o.stays hs4 G9.o;have uP:w4.heap[w.heap.size]? =w3.heap[w.heap.size]? :=nR.o.stays hs4 nR.o.opb;clear k1 k2 k3 k4 hs4 oh HC;have jk:acB ((fun w'=>w'.cell? ⟨b,off,none⟩=some (.slice a0 q0.length c0)∧w'.cell? ⟨w.heap.size,7,none⟩=some (.int .i64 sn)) w4):=⟨(Pe hb4).trans hc0,(Pe uP).trans g7⟩;clear hb4 uP;go_wp2_with fail;refine bK hK (jk.o) fun hS=> ?_;clear hK K;refine bB 7 fun K hK=> ?_;refine eU rfl 41 _ _ rfl (w.heap.size+1) (eu (rr.1) Av Aw Ay Az) rfl rfl _ HD4.o.re bH rfl (bI _ _ _ _ _) ?_;intro w5 hs5;have dB:=acA hs5;clear hs5;refine kX hK ?_;clear hS hK K;go_wp2_with fail;exact bX rfl rfl rfl dB.o.1 (by rw[fq.o];exact HD4.o.fin dB.o tK.o.1 tK.o.2.1 tK.o.2.2.1 tK.o.2.2.2)
theorem sdo_k4(h:uh S W o i j k l n w p M cc ⟨4,pa,dD,fd,at_,nn,aA,sn,dt⟩ da dc m):
  Calls Tryz.prog 25 #[ptr p,.agg (opC ⟨4,pa,dD,fd,at_,nn,aA,sn,dt⟩ da dc)] w (mH o i j k l n w p (dH M ⟨4,pa,dD,fd,at_,nn,aA,sn,dt⟩)):=by
 obtain⟨o1,w2,HD2,jE,iK,iM,HX,HK,hcc⟩:=h.pre;have hps:eO ⟨4,pa,dD,fd,at_,nn,aA,sn,dt⟩=([],0):=rfl;have hsd:=uj M hps;rw[hps]at iK;unfold opC eu bR at iK;dsimp only[List.length_nil]at iK jE;have fq:=acA hsd;clear h hps hsd;unfold opC;go_enter aaV,aaP;go_wp2_with fail;refine iK.o.mono ?_;clear iK;intro e w3 hpr;obtain⟨a3,c3,rfl,HD,HB3,kW,g0⟩:=HD2.o.none_ hpr jE.o;dsimp only at g0 kW;clear hpr HD2 jE;have hsd:dH M ⟨4,pa,dD,fd,at_,nn,aA,sn,dt⟩=(pQ M ⟨4,pa,dD,fd,at_,nn,aA,sn,dt⟩,M):=fq.o;replace fq:=acA hsd;clear hsd;obtain⟨rr,hrr⟩:∃rr,rr=pQ M ⟨4,pa,dD,fd,at_,nn,aA,sn,dt⟩:=⟨_,rfl⟩;have HC:=acA (PU HD.o.st HD.o.marks ⟨4,pa,dD,fd,at_,nn,aA,sn,dt⟩ HX.o (fun q f hf=>by have:=(iM.o.fd q f hf).2.2;omega) da dc);unfold opC at HC;rw[←hrr]at HC fq;clear hrr;have g1:w3.cell? ⟨w.heap.size,1,none⟩=some (.string (strOf pa)):=by simp[World.cell?,HD.o.op,opC]
 have g2:w3.cell? ⟨w.heap.size,2,none⟩=some (.string (strOf dD)):=by simp[World.cell?,HD.o.op,opC]
 have g3:w3.cell? ⟨w.heap.size,3,none⟩=some (.int .i64 fd):=by simp[World.cell?,HD.o.op,opC]
 have g4:w3.cell? ⟨w.heap.size,4,none⟩=some (.int .i64 at_):=by simp[World.cell?,HD.o.op,opC]
 have g5:w3.cell? ⟨w.heap.size,5,none⟩=some (.int .i64 nn):=by simp[World.cell?,HD.o.op,opC]
 have g6:w3.cell? ⟨w.heap.size,6,none⟩=some (.int .u64 aA):=by simp[World.cell?,HD.o.op,opC]
 have g7:w3.cell? ⟨w.heap.size,7,none⟩=some (.int .i64 sn):=by simp[World.cell?,HD.o.op,opC]
 have g8:w3.cell? ⟨w.heap.size,8,none⟩=some (.slice da dt.length dc):=by simp[World.cell?,HD.o.op,opC]
 go_wp2_with fail;refine HC.o.mono ?_;rintro e w4 ⟨⟨v4,rfl,Av,Aw,Ay,Az,rfl,k1,k2,k3,k4⟩,hb4⟩;have HD4:=acA (HD.o.grow hb4);have tK:=acA (And.intro k1 (And.intro k2 (And.intro k3 k4)));clear k1 k2 k3 k4 HC hb4;go_wp2_with (refine ak (by rfl) 41 _ _ (by rfl) (w.heap.size+1) (eu (rr) Av Aw Ay Az) (by rfl) (by rfl) _ HD4.o.re bH rfl (bI _ _ _ _ _) ?_;intro w5 hs5;have dB:=acA hs5;clear hs5);exact bX rfl rfl rfl dB.o.1 (by rw[fq.o];exact HD4.o.fin dB.o tK.o.1 tK.o.2.1 tK.o.2.2.1 tK.o.2.2.2)
end
end Go.Proofs.YtjnhnlabpccgjaaGreatDoor
