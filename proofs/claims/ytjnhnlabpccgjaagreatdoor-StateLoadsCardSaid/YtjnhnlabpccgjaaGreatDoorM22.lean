/- path -/
import Derived.Test.YtjnhnlabpccgjaaGreatDoorM21
import Derived.Test.YtjnhnlabpccgjaaGreatDoorM12
set_option maxRecDepth 100000
set_option maxHeartbeats 64000000
set_option linter.all false
namespace Go.Proofs.YtjnhnlabpccgjaaGreatDoor
open Go.ChangeShapes Go.WideShapes Go.ChangeAt Go.RowKit
theorem OB(ss:List ByteArray):(BJ ss).length=ss.length:=by simp[BJ]
theorem Um{w:World}{e:TypeId}{ss:List ByteArray}{n:Nat}(hn:ss.length=n)(hm:n≤maxLen)(hs:∀s∈ss,s.size≤maxLen):aT (wW w.heap.size) (w.alloc (.cells (ss.map Value.string).toArray e)) (some ⟨w.heap.size,0,none⟩) n ss:=by
 refine⟨⟨by simpa using hn,hm,fun _=>⟨w.heap.size,0,rfl,Nat.le_refl _,by simp,fun i hi=> ?_⟩⟩,hs⟩;have hh:(w.alloc (.cells (ss.map Value.string).toArray e)).heap[w.heap.size]? =some (.cells (ss.map Value.string).toArray e):=(MapKept.heap_alloc w _).1;simp only[World.cell?,hh,Nat.zero_add];simp
theorem XR(ss:List ByteArray):ss.any CS=(BJ ss).any (fun x=> !bT x):=by
 unfold BJ;rw[List.any_map];rfl
theorem Un(ss:List ByteArray):AY ss=bH (BJ ss):=by
 unfold AY bH;rw[XR,OB]
def DI(w:World)(l:List UInt8)(e:Ending)(w':World):Prop:=
 ∃a len cap ss,e= .returned (.tuple #[.slice a len cap,.int .i64 (ak l).2])∧len≤cap∧BJ ss=(ak l).1∧aT (wW w.heap.size) w' a len ss∧Below w.heap.size w w'
theorem F9(s:ByteArray)(w:World)(hs:s.size<4294967281)(m:Int)(hm:w.cell? ⟨0,0,none⟩=some (.int .i64 m)):
  Calls Tryz.prog 137 #[.string s] w (DI w s.data.toList):=by
 obtain⟨l,hl⟩:∃l,s.data.toList=l:=⟨_,rfl⟩;rw[hl];have hsl:s.size=l.length:=by rw[←hl];simp
 have HC:=Tryz.strings_CutPrefix s ⟨#[47]⟩;rw[hl]at HC;have ways:(Lib.hasPrefix l [47]=false∧ak l=([],12))∨(l=[47]∧ak l=([],0))∨(∃r,r≠[]∧l=47::r∧ak l=if bH (bR r)=0 then(bR r,0)else([],bH (bR r))):=by
  cases l with
  |nil=>exact Or.inl ⟨rfl,rfl⟩
  |cons c r=>
   by_cases h:c=47
   ·subst h;by_cases hr:r=[]
    ·subst hr;exact Or.inr (Or.inl ⟨rfl,rfl⟩)
    ·exact Or.inr (Or.inr ⟨r,hr,rfl,by simp[ak,hr]⟩)
   ·refine Or.inl ⟨?_,by simp[ak,h]⟩;simp[Lib.hasPrefix,List.isPrefixOf];exact fun e=>h e.symm
 clear hl;rcases ways with⟨h1,h2⟩|⟨h1,h2⟩|⟨r,h1,h2,h3⟩
 ·have HP:=acr h2;rw[h1]at HC;clear h1 h2 hsl;go_enter Tryz.func137,Tryz.ntmps137;go_wp2_with fail;refine(HC _).mono ?_;rintro e w1 ⟨rfl,rfl⟩;clear HC;go_wp2_with fail
  go_ret2
  exact⟨none,0,0,[],by rw[HP.o];rfl,by simp,by rw[HP.o];rfl,⟨ah.nil _ _ _,by simp⟩,Below.refl _ _⟩
 ·have HP:=acr h2;subst h1;clear h2 hsl;rw[show Lib.trimPrefix [47] [47]=[]from rfl,show Lib.hasPrefix [47] [47]=true from rfl]at HC;go_enter Tryz.func137,Tryz.ntmps137;go_wp2_with fail;refine(HC _).mono ?_;rintro e w1 ⟨rfl,rfl⟩;clear HC;go_wp2_with fail
  go_ret2
  exact⟨none,0,0,[],by rw[HP.o];rfl,by simp,by rw[HP.o];rfl,⟨ah.nil _ _ _,by simp⟩,Below.refl _ _⟩
 ·subst h2;have HP:=acr h3;clear h3;have e1:Lib.trimPrefix (47::r) [47]=r:=by simp[Lib.trimPrefix,Lib.hasPrefix,List.isPrefixOf]
  have e2:Lib.hasPrefix (47::r) [47]=true:=by simp[Lib.hasPrefix,List.isPrefixOf]
  rw[show(⟨#[47]⟩:ByteArray).data.toList=[47]from rfl,e1,e2]at HC;clear e1 e2;obtain⟨t,ht⟩:∃t,t=bmk r:=⟨_,rfl⟩;have ht':(⟨r.toArray⟩:ByteArray)=t:=ht.symm;rw[ht']at HC;have htl:t.data.toList=r:=by rw[ht];rfl
  have hts:t.size=r.length:=by rw[ht,Ul]
  have hte:=abm t;rw[htl]at hte;have ht1:¬t.toList=[]:=by rw[hte];exact h1
  have ht2:t.toList.isEmpty=false:=by rw[hte];simpa using h1
  have hsz:t.size<4294967281:=by rw[hts];simp at hsl;omega
  clear ht ht' hte;obtain⟨hB,hcn⟩:=I8 t;rw[htl]at hB hcn;have hlen:(Lib.splitB ⟨#[47]⟩ 0 (Lib.countB t ⟨#[47]⟩) t).length=Lib.countB t ⟨#[47]⟩+1:=by
   have:=aaF List.length hB;rw[List.length_map,EX]at this;omega
  have hcl:Lib.countB t ⟨#[47]⟩+1≤r.length+1:=by rw[hcn];have:=List.count_le_length (a:=(47:UInt8)) (l:=r);omega
  have hshort:∀x∈Lib.splitB ⟨#[47]⟩ 0 (Lib.countB t ⟨#[47]⟩) t,x.size≤maxLen:=by
   intro x hx;have h5:x.data.toList∈bR r:=by rw[←hB];exact List.mem_map.2 ⟨x,hx,rfl⟩
   have:=PK r _ h5;have h6:x.data.toList.length=x.size:=by simp
   unfold maxLen;omega
  obtain⟨ss,hss⟩:∃ss,ss=Lib.splitB ⟨#[47]⟩ 0 (Lib.countB t ⟨#[47]⟩) t:=⟨_,rfl⟩;have HS:=Tryz.strings_Split t ⟨#[47]⟩ m w hsz hm (by decide);obtain⟨n,hn⟩:∃n,n=Lib.countB t ⟨#[47]⟩+1:=⟨_,rfl⟩;rw[←hss,←hn]at HS;rw[←hss]at hB hlen hshort;rw[←hn]at hlen hcl;have hnm:n≤maxLen:=by unfold maxLen;omega
  have HSt:=Um (w:=w) (e:=9) hlen hnm hshort;have HF:=I7 (S:=wW w.heap.size) (some ⟨w.heap.size,0,none⟩) n n ss _ HSt;rw[Un,show BJ ss=bR r from hB]at HF;have HB:=acr hB;clear hB hlen hshort hss hn hcn hcl hnm htl hts hsl;cases hf:(bH (bR r) !=0)
  ·have hf0:bH (bR r)=0:=by simpa using hf
   have HF0:=acr hf0;clear hf0;go_enter Tryz.func137,Tryz.ntmps137;go_wp2_with fail;refine(HC _).mono ?_;rintro e w1 ⟨rfl,rfl⟩;clear HC;go_wp2_with fail;refine HS.mono ?_;rintro e w1 ⟨rfl,rfl⟩;go_wp2_with fail;refine HF.mono ?_;rintro e w1 ⟨rfl,hb⟩;go_wp2_with fail
   go_ret2
   refine⟨_,n,n,ss,by rw[HP.o,if_pos HF0.o];rfl,Nat.le_refl _,by rw[HP.o,if_pos HF0.o];exact HB.o,HSt.below hb (by simp),(acv.alloc acu _).trans (hb.mono (by simp))⟩
  ·have hf0:bH (bR r)≠0:=by simpa using hf
   have HF0:=acr hf0;clear hf0;go_enter Tryz.func137,Tryz.ntmps137;go_wp2_with fail;refine(HC _).mono ?_;rintro e w1 ⟨rfl,rfl⟩;clear HC;go_wp2_with fail;refine HS.mono ?_;rintro e w1 ⟨rfl,rfl⟩;go_wp2_with fail;refine HF.mono ?_;rintro e w1 ⟨rfl,hb⟩;go_wp2_with fail
   go_ret2
   refine⟨none,0,0,[],by rw[HP.o,if_neg HF0.o];rfl,by simp,by rw[HP.o,if_neg HF0.o];rfl,⟨ah.nil _ _ _,by simp⟩,(acv.alloc acu _).trans (hb.mono (by simp))⟩
theorem tL:∀(ts:List (List UInt8)),(∀t∈ts,(ak t).2=0)→gy ts=(ts.map fun t=>(ak t).1,0)
 |[],_=>rfl
 |t::r,h=>by
  have h1:=h t (by simp);have h2:=tL r fun x hx=>h x (by simp[hx]);unfold gy;rw[if_neg (by rw[h1];simp),h2,if_neg (by simp)];rfl
theorem lZ:∀(ts:List (List UInt8)) (k:Nat) (t:List UInt8),ts[k]? =some t→(∀x∈ts.take k,(ak x).2=0)→(ak t).2≠0→gy ts=([],(ak t).2)
 |[],k,t,h,_,_=>by simp at h
 |a::r,0,t,h,_,h2=>by
  have h:a=t:=by simpa using h
  subst h;unfold gy;rw[if_pos h2]
 |a::r,k+1,t,h,h1,h2=>by
  have h3:=lZ r k t (by simpa using h) (fun x hx=>h1 x (by rw[abn];simp[hx])) h2;unfold gy;rw[if_neg (by rw[h1 a (by rw[abn];simp)];simp),h3,if_pos h2]
theorem OC(ss:List ByteArray):(BJ ss).map strOf=ss:=by
 unfold BJ;rw[List.map_map];have:(strOf∘fun s:ByteArray=>s.data.toList)=id:=by
  funext s;show strOf s.data.toList=s;cases s;rfl
 rw[this,List.map_id]
def gU(w:World)(ps:List (List Nm)×Int)(e:Ending)(w':World):Prop:=
 ∃a n c vs,e= .returned (.tuple #[.slice a n c,.int .i64 ps.2])∧n=ps.1.length∧n≤c∧ah (fun b=>w.heap.size≤b∧b<w'.heap.size) w' a n vs∧oO (fun b=>w.heap.size≤b∧b<w'.heap.size) w' vs ps.1∧Below w.heap.size w w'
def fU(w:World)(ts:List (List UInt8))(k:Nat)(v:Value)(wr:World):Prop:=
 ∃vals,wr.ownsRow w.heap.size 26 1 v k vals∧oO (fun b=>w.heap.size≤b∧b<wr.heap.size∧v.ownBlock≠some b) wr vals ((ts.take k).map fun t=>(ak t).1)∧Below w.heap.size w wr∧∀t∈ts.take k,(ak t).2=0
theorem fU.start{w wr:World}(ts:List (List UInt8))(hb:Below w.heap.size w wr):fU w ts 0 (.slice none 0 0) wr:=
 ⟨[],⟨rfl,.inl ⟨rfl,rfl⟩⟩,⟨rfl,fun i q hq=>by simp at hq⟩,hb,fun t ht=>by simp at ht⟩
theorem fU.one{w:World}{ts:List (List UInt8)}{k:Nat}{v:Value}{wr:World}(h:fU w ts k v wr):∃a c vals,v= .slice a k c∧k≤c∧wr.ownsRow w.heap.size 26 1 v k vals:=by
 obtain⟨vals,h1,h2⟩:=h;obtain⟨a,c,h3,h4⟩:=fM h1;exact⟨a,c,vals,h3,h4,h1⟩
theorem fU.next{w w2 w3 w4:World}{ts:List (List UInt8)}{k:Nat}{v v':Value}{wr:World}{t:List UInt8}{a:Option Addr}{len cap:Nat}{ss:List ByteArray}{vals:List Value}
  (h1:wr.ownsRow w.heap.size 26 1 v k vals)(h2:oO (fun b=>w.heap.size≤b∧b<wr.heap.size∧v.ownBlock≠some b) wr vals ((ts.take k).map fun t=>(ak t).1))(h3:Below w.heap.size w wr)(h4:∀t∈ts.take k,(ak t).2=0)
  (ht:ts[k]? =some t)(h0:(ak t).2=0)(hlc:len≤cap)(hbs:BJ ss=(ak t).1)(hS:aT (wW wr.heap.size) w2 a len ss)(hb2:Below wr.heap.size wr w2)(hb3:Below w2.heap.size w2 w3)
  (hown:w4.ownsRow w.heap.size 26 1 v' (k+1) (vals++[.slice a len cap]))(hg:w3.grownBy w4 v.ownBlock)(hob:v'.ownBlock=v.ownBlock∨v'.ownBlock=some w3.heap.size):fU w ts (k+1) v' w4:=by
 have hs2:=hb2.size;have hs3:=hb3.size;have hs1:=h3.size;have hs4:=hg.size;have hvo:∀b,v.ownBlock=some b→b<wr.heap.size:=lK h1;have hne:∀b,b<w3.heap.size→v.ownBlock≠some b→v'.ownBlock≠some b:=fun b hb hn=>by
  rcases hob with e|e
  ·rw[e];exact hn
  ·rw[e];simp;omega
 refine⟨_,hown,?_,(h3.trans ((hb2.trans (hb3.mono hs2)).mono hs1)).grown hg (by omega) (dA h1),fun x hx=> ?_⟩
 ·have e:(ts.take (k+1)).map (fun t=>(ak t).1)=(ts.take k).map (fun t=>(ak t).1)++[(ak t).1]:=by
   obtain⟨hk,e⟩:=aac.1 ht;rw[aae hk,List.map_append,e];rfl
  rw[e];refine oO.append (h2.move (by omega) fun b hb hbw=>⟨⟨hb.1,by omega,hne b (by omega) hb.2.2⟩,?_⟩) ⟨rfl,fun i q hq=> ?_⟩
  ·exact((hg.block b (by omega) (fun e=>hb.2.2 e.symm)).trans (hb3.block b (by omega))).trans (hb2.block b hbw)
  ·rcases i with _|i
   ·have hq:(ak t).1=q:=by simpa using hq
    subst hq;refine⟨_,rfl,?_⟩;have hl:=hS.length;have hss:ss=((ak t).1).map strOf:=by rw[←hbs,OC]
    have hll:len=(ak t).1.length:=by rw[←hl,hss,List.length_map]
    subst hll;rw[hss]at hS;refine⟨a,cap,rfl,hlc,hS.row.move (by omega) fun b hb hbw=> ?_,hS.short⟩;have hb:wr.heap.size≤b:=hb;have hvn:v.ownBlock≠some b:=fun e=>by have:=hvo b e;omega
    exact⟨⟨by omega,by omega,hne b (by omega) hvn⟩,(hg.block b (by omega) (fun e=>hvn e.symm)).trans (hb3.block b hbw)⟩
   ·simp at hq
 ·obtain⟨hk,e⟩:=aac.1 ht;rw[aae hk,e]at hx;rcases aap.1 hx with hx|hx
  ·exact h4 x hx
  ·rw[List.mem_singleton.1 hx];exact h0
theorem fU.done{w:World}{ts:List (List UInt8)}{v:Value}{wr:World}(h:fU w ts ts.length v wr):gU w (gy ts) (.returned (.tuple #[v,.int .i64 0])) wr:=by
 obtain⟨vals,h1,h2,h3,h4⟩:=h;rw[List.take_of_length_le acu]at h2 h4;rw[tL ts h4];obtain⟨a,c,rfl,hc⟩:=fM h1;exact⟨a,ts.length,c,vals,rfl,by simp,hc,(ah.mR h1).2,h2.move acu fun b hb _=>⟨⟨hb.1,hb.2.1⟩,rfl⟩,h3⟩
theorem gU.up{w w1 wr:World}{ps:List (List Nm)×Int}{e:Ending}(h:gU w1 ps e wr)(hb:Below w.heap.size w w1):gU w ps e wr:=by
 obtain⟨a,n,c,vs,h1,h2,h3,h4,h5,h6⟩:=h;have:=hb.size;exact⟨a,n,c,vs,h1,h2,h3,h4.mono fun b hb'=>⟨by omega,hb'.2⟩,h5.move acu fun b hb' _=>⟨⟨by omega,hb'.2⟩,rfl⟩,hb.trans (h6.mono hb.size)⟩
theorem Am:(Tryz.prog.info? 26).map (fun i=>(i.zero,i.size,i.bytes))=some (some (.slice none 0 0),1,24):=by kernel_rfl
theorem Uo(kd:Int)(hkd:kd=1∨kd=2∨kd=3∨kd=8∨kd=9∨kd=11∨kd=12∨kd=13)(p:Nat)(w:World)(pa ig:List UInt8)(fd at_ n aF sn:Int)(dt:List UInt8)(da:Option Addr)(dc:Nat)(hpa:pa.length<4294967281)(hto:ig.length<4294967281)(m:Int)(hm:w.cell? ⟨0,0,none⟩=some (.int .i64 m)):
  Calls Tryz.prog 69 #[ptr p,.agg (opC ⟨kd,pa,ig,fd,at_,n,aF,sn,dt⟩ da dc)] w (gU w (gy [pa])):=by
 rcases hkd with hkd|hkd|hkd|hkd|hkd|hkd|hkd|hkd
 all_goals as_aux_lemma=>
  obtain⟨ie,he,hz0,hz1,hz2⟩:=aam Am;have JM:0<w.heap.size:=aaj w _ hm;obtain⟨w1,hw1⟩:∃w1,w1=(w.alloc (.cells (opC ⟨kd,pa,ig,fd,at_,n,aF,sn,dt⟩ da dc) 30)).alloc (.cells #[.string (strOf pa)] 9):=⟨_,rfl⟩;have hb1:Below w.heap.size w w1:=by rw[hw1];exact(wall w _).trans ((wall _ _).mono (by simp))
  have hbl:w1.heap[w.heap.size+1]? =some (.cells #[.string (strOf pa)] 9 (0,0)):=by
   rw[hw1];have:=(MapKept.heap_alloc (w.alloc (.cells (opC ⟨kd,pa,ig,fd,at_,n,aF,sn,dt⟩ da dc) 30)) (.cells #[.string (strOf pa)] 9)).1;rw[Pe]at this;exact this
  have hrow:∀k t,([pa]:List (List UInt8))[k]? =some t→w1.cell? ⟨w.heap.size+1,k,none⟩=some (.string (strOf t))∧t.length<4294967281:=fun k t h=>by
   rcases k with _|k
   ·obtain rfl:pa=t:=by simpa using h
    exact⟨by simp[World.cell?,hbl],hpa⟩
   ·simp at h
  have hbz:w.heap.size+1<w1.heap.size:=(iL.1 hbl).1;clear hbl;have lg:=acr hrow;have HB1:=acr hb1;have HW:=acr hw1;have HM:=acr hm;have wB:=acr JM;clear hrow hb1 hw1 hm hpa hto JM;subst hkd;unfold opC at HW;unfold opC;go_enter Tryz.func69,Tryz.ntmps69;go_wp2_with fail;rw[←HW.o];clear HW;obtain⟨ts,hts⟩:∃ts:List (List UInt8),ts=[pa]:=⟨_,rfl⟩;have hnn:ts.length=1:=by rw[hts];rfl
  rw[←hts]at lg;have HTS:=acr hts;clear hts;have pq:=acr hnn;clear hnn
  go_loopw [7,44] (fun v iv wr=>∃k:Nat,k≤1∧iv= .int .i64 k∧fU w1 ts k v wr) (fun _ iv _=>1-(intOf iv).toNat)
  case atStart=>exact⟨0,by omega,rfl,fU.start ts acv⟩
  case round=>
   obtain⟨k,hk,rfl,hrel⟩:=hrel;have HR:=acr hrel;clear hrel;by_cases hlt:k<1
   ·obtain⟨t,ht⟩:∃t,ts[k]? =some t:=⟨ts[k]'(by rw[pq.o];exact hlt),List.getElem?_eq_getElem _⟩;obtain⟨hc1,hts⟩:=lg.o k t ht;obtain⟨vals,hown,hpv,hbw,hok⟩:=HR.o;have hcell:=(hbw.cell (p:=⟨w.heap.size+1,k,none⟩) hbz).trans hc1;have hmr:wr.cell? ⟨0,0,none⟩=some (.int .i64 m):=((HB1.o.trans (hbw.mono HB1.o.size)).cell (p:=⟨0,0,none⟩) wB.o).trans HM.o;have iM:=acr (F9 (strOf t) wr (by rw[fK];exact hts) m hmr);have HT:=acr ht;have HOWN:=acr hown;have HPV:=acr hpv;have IU:=acr hbw;have jO:=acr hok;have i0:(0:Int)≤(k:Int):=by omega
    have i1:(k:Int)<1:=by omega
    have hsz:=hbw.size;have hd:decide ((k:Int)<1)=true:=by simpa using i1
    obtain⟨ao,co,rfl,hac⟩:=fM hown;clear hown hpv hbw hok ht hc1 hts hmr;go_wp2_with fail;refine iM.o.mono ?_;rintro e w2 ⟨a,len,cap,ss,rfl,hlc,hbs,hS,hb2⟩;rw[show(strOf t).data.toList=t from rfl]at hbs⊢;have ZI:=acr hbs;have HS:=acr hS;have HB2:=acr hb2;have SI:=acr hlc;have hs2:=hb2.size;clear iM hbs hS hb2 hlc;obtain⟨z,hz⟩:∃z,z=(ak t).2:=⟨_,rfl⟩;rw[←hz];by_cases hzz:z=0
    ·have HZ:=acr (hz.symm.trans hzz);subst hzz;clear hz;go_wp2_with (at_builtin;refine aQ (by rfl) _ _ 118 (by rfl) w1.heap.size 26 ie (.slice none 0 0) 24 Tryz.underlying118 he hz0 hz1 hz2 rfl _ _ _ (by rfl) (fG HOWN.o fun b hb _=>((wall w2 (.cells #[.slice a len cap] 26)).block b (by have:=lK HOWN.o b hb;omega)).trans (HB2.o.block b (lK HOWN.o b hb))) (some ⟨w2.heap.size,0,none⟩) 1 1 [.slice a len cap] (by rfl) (yN _ _) (by intro u hu;rw[List.mem_singleton.1 hu];rfl) (by unfold maxLen;omega) (by omega) (by simp;omega) ?_;intro A' c' w4 mY xS _ Uq);have HN:=acr (fU.next HOWN.o HPV.o IU.o jO.o HT.o HZ.o SI.o ZI.o HS.o HB2.o (wall w2 _) mY xS Uq);have HG4:=acr xS;clear mY xS Uq;go_roundw
     case rel=>
      exact⟨k+1,by omega,by go_num,HN.o⟩
     case measure=>simp[intOf];omega
    ·have HZ:=acr hzz;have hz2:(z !=0)=true:=by simpa using hzz
     have BQ:=acr hz;clear hzz hz;go_wp2_with fail
     go_ret2
     rw[←HTS.o,lZ ts k t HT.o jO.o (by rw[←BQ.o];exact HZ.o)];exact⟨none,0,0,[],by rw[BQ.o];rfl,rfl,Nat.le_refl _,ah.nil _ _ _,⟨rfl,fun i q hq=>by simp at hq⟩,HB1.o.trans ((IU.o.trans (HB2.o.mono IU.o.size)).mono HB1.o.size)⟩
   ·have hd:decide ((k:Int)<1)=false:=by simp;omega
    obtain rfl:k=1:=by omega
    obtain⟨a,c,vals,rfl,hac,hown⟩:=HR.o.one;clear hown;go_wp2_with fail
    go_ret2
    have hd:=HR.o;rw[←pq.o]at hd;have:=hd.done;rw[pq.o,HTS.o]at this;exact this.up HB1.o
theorem Ur(kd:Int)(hkd:kd=7∨kd=10)(p:Nat)(w:World)(pa ig:List UInt8)(fd at_ n aF sn:Int)(dt:List UInt8)(da:Option Addr)(dc:Nat)(hpa:pa.length<4294967281)(hto:ig.length<4294967281)(m:Int)(hm:w.cell? ⟨0,0,none⟩=some (.int .i64 m)):
  Calls Tryz.prog 69 #[ptr p,.agg (opC ⟨kd,pa,ig,fd,at_,n,aF,sn,dt⟩ da dc)] w (gU w (gy [pa,ig])):=by
 rcases hkd with hkd|hkd
 all_goals as_aux_lemma=>
  obtain⟨ie,he,hz0,hz1,hz2⟩:=aam Am;have JM:0<w.heap.size:=aaj w _ hm;obtain⟨w1,hw1⟩:∃w1,w1=(w.alloc (.cells (opC ⟨kd,pa,ig,fd,at_,n,aF,sn,dt⟩ da dc) 30)).alloc (.cells #[.string (strOf pa),.string (strOf ig)] 9):=⟨_,rfl⟩;have hb1:Below w.heap.size w w1:=by rw[hw1];exact(wall w _).trans ((wall _ _).mono (by simp))
  have hbl:w1.heap[w.heap.size+1]? =some (.cells #[.string (strOf pa),.string (strOf ig)] 9 (0,0)):=by
   rw[hw1];have:=(MapKept.heap_alloc (w.alloc (.cells (opC ⟨kd,pa,ig,fd,at_,n,aF,sn,dt⟩ da dc) 30)) (.cells #[.string (strOf pa),.string (strOf ig)] 9)).1;rw[Pe]at this;exact this
  have hrow:∀k t,([pa,ig]:List (List UInt8))[k]? =some t→w1.cell? ⟨w.heap.size+1,k,none⟩=some (.string (strOf t))∧t.length<4294967281:=fun k t h=>by
   rcases k with _|k
   ·obtain rfl:pa=t:=by simpa using h
    exact⟨by simp[World.cell?,hbl],hpa⟩
   ·rcases k with _|k
    ·obtain rfl:ig=t:=by simpa using h
     exact⟨by simp[World.cell?,hbl],hto⟩
    ·simp at h
  have hbz:w.heap.size+1<w1.heap.size:=(iL.1 hbl).1;clear hbl;have lg:=acr hrow;have HB1:=acr hb1;have HW:=acr hw1;have HM:=acr hm;have wB:=acr JM;clear hrow hb1 hw1 hm hpa hto JM;subst hkd;unfold opC at HW;unfold opC;go_enter Tryz.func69,Tryz.ntmps69;go_wp2_with fail;rw[←HW.o];clear HW;obtain⟨ts,hts⟩:∃ts:List (List UInt8),ts=[pa,ig]:=⟨_,rfl⟩;have hnn:ts.length=2:=by rw[hts];rfl
  rw[←hts]at lg;have HTS:=acr hts;clear hts;have pq:=acr hnn;clear hnn
  go_loopw [7,44] (fun v iv wr=>∃k:Nat,k≤2∧iv= .int .i64 k∧fU w1 ts k v wr) (fun _ iv _=>2-(intOf iv).toNat)
  case atStart=>exact⟨0,by omega,rfl,fU.start ts acv⟩
  case round=>
   obtain⟨k,hk,rfl,hrel⟩:=hrel;have HR:=acr hrel;clear hrel;by_cases hlt:k<2
   ·obtain⟨t,ht⟩:∃t,ts[k]? =some t:=⟨ts[k]'(by rw[pq.o];exact hlt),List.getElem?_eq_getElem _⟩;obtain⟨hc1,hts⟩:=lg.o k t ht;obtain⟨vals,hown,hpv,hbw,hok⟩:=HR.o;have hcell:=(hbw.cell (p:=⟨w.heap.size+1,k,none⟩) hbz).trans hc1;have hmr:wr.cell? ⟨0,0,none⟩=some (.int .i64 m):=((HB1.o.trans (hbw.mono HB1.o.size)).cell (p:=⟨0,0,none⟩) wB.o).trans HM.o;have iM:=acr (F9 (strOf t) wr (by rw[fK];exact hts) m hmr);have HT:=acr ht;have HOWN:=acr hown;have HPV:=acr hpv;have IU:=acr hbw;have jO:=acr hok;have i0:(0:Int)≤(k:Int):=by omega
    have i1:(k:Int)<2:=by omega
    have hsz:=hbw.size;have hd:decide ((k:Int)<2)=true:=by simpa using i1
    obtain⟨ao,co,rfl,hac⟩:=fM hown;clear hown hpv hbw hok ht hc1 hts hmr;go_wp2_with fail;refine iM.o.mono ?_;rintro e w2 ⟨a,len,cap,ss,rfl,hlc,hbs,hS,hb2⟩;rw[show(strOf t).data.toList=t from rfl]at hbs⊢;have ZI:=acr hbs;have HS:=acr hS;have HB2:=acr hb2;have SI:=acr hlc;have hs2:=hb2.size;clear iM hbs hS hb2 hlc;obtain⟨z,hz⟩:∃z,z=(ak t).2:=⟨_,rfl⟩;rw[←hz];by_cases hzz:z=0
    ·have HZ:=acr (hz.symm.trans hzz);subst hzz;clear hz;go_wp2_with (at_builtin;refine aQ (by rfl) _ _ 118 (by rfl) w1.heap.size 26 ie (.slice none 0 0) 24 Tryz.underlying118 he hz0 hz1 hz2 rfl _ _ _ (by rfl) (fG HOWN.o fun b hb _=>((wall w2 (.cells #[.slice a len cap] 26)).block b (by have:=lK HOWN.o b hb;omega)).trans (HB2.o.block b (lK HOWN.o b hb))) (some ⟨w2.heap.size,0,none⟩) 1 1 [.slice a len cap] (by rfl) (yN _ _) (by intro u hu;rw[List.mem_singleton.1 hu];rfl) (by unfold maxLen;omega) (by omega) (by simp;omega) ?_;intro A' c' w4 mY xS _ Uq);have HN:=acr (fU.next HOWN.o HPV.o IU.o jO.o HT.o HZ.o SI.o ZI.o HS.o HB2.o (wall w2 _) mY xS Uq);have HG4:=acr xS;clear mY xS Uq;go_roundw
     case rel=>
      exact⟨k+1,by omega,by go_num,HN.o⟩
     case measure=>simp[intOf];omega
    ·have HZ:=acr hzz;have hz2:(z !=0)=true:=by simpa using hzz
     have BQ:=acr hz;clear hzz hz;go_wp2_with fail
     go_ret2
     rw[←HTS.o,lZ ts k t HT.o jO.o (by rw[←BQ.o];exact HZ.o)];exact⟨none,0,0,[],by rw[BQ.o];rfl,rfl,Nat.le_refl _,ah.nil _ _ _,⟨rfl,fun i q hq=>by simp at hq⟩,HB1.o.trans ((IU.o.trans (HB2.o.mono IU.o.size)).mono HB1.o.size)⟩
   ·have hd:decide ((k:Int)<2)=false:=by simp;omega
    obtain rfl:k=2:=by omega
    obtain⟨a,c,vals,rfl,hac,hown⟩:=HR.o.one;clear hown;go_wp2_with fail
    go_ret2
    have hd:=HR.o;rw[←pq.o]at hd;have:=hd.done;rw[pq.o,HTS.o]at this;exact this.up HB1.o
theorem Us(kd:Int)(hkd:kd=4∨kd=5∨kd=6∨kd=14∨kd=15∨kd=16∨kd=17)(p:Nat)(w:World)(pa ig:List UInt8)(fd at_ n aF sn:Int)(dt:List UInt8)(da:Option Addr)(dc:Nat)(hpa:pa.length<4294967281)(hto:ig.length<4294967281)(m:Int)(hm:w.cell? ⟨0,0,none⟩=some (.int .i64 m)):
  Calls Tryz.prog 69 #[ptr p,.agg (opC ⟨kd,pa,ig,fd,at_,n,aF,sn,dt⟩ da dc)] w (gU w (gy [])):=by
 rcases hkd with hkd|hkd|hkd|hkd|hkd|hkd|hkd
 all_goals as_aux_lemma=>
  obtain⟨ie,he,hz0,hz1,hz2⟩:=aam Am;have JM:0<w.heap.size:=aaj w _ hm;obtain⟨w1,hw1⟩:∃w1,w1=w.alloc (.cells (opC ⟨kd,pa,ig,fd,at_,n,aF,sn,dt⟩ da dc) 30):=⟨_,rfl⟩;have hb1:Below w.heap.size w w1:=by rw[hw1];exact wall w _
  have hrow:∀k t,([]:List (List UInt8))[k]? =some t→w1.cell? ⟨w.heap.size+1,k,none⟩=some (.string (strOf t))∧t.length<4294967281:=fun k t h=>by simp at h
  have lg:=acr hrow;have HB1:=acr hb1;have HW:=acr hw1;have HM:=acr hm;have wB:=acr JM;clear hrow hb1 hw1 hm hpa hto JM;subst hkd;unfold opC at HW;unfold opC;go_enter Tryz.func69,Tryz.ntmps69;go_wp2_with fail;rw[←HW.o];clear HW;obtain⟨ts,hts⟩:∃ts:List (List UInt8),ts=[]:=⟨_,rfl⟩;have hnn:ts.length=0:=by rw[hts];rfl
  rw[←hts]at lg;have HTS:=acr hts;clear hts;have pq:=acr hnn;clear hnn
  go_loopw [7,44] (fun v iv wr=>∃k:Nat,k≤0∧iv= .int .i64 k∧fU w1 ts k v wr) (fun _ iv _=>0-(intOf iv).toNat)
  case atStart=>exact⟨0,by omega,rfl,fU.start ts acv⟩
  case round=>
   obtain⟨k,hk,rfl,hrel⟩:=hrel;have HR:=acr hrel;clear hrel;obtain rfl:k=0:=by omega
   obtain⟨a,c,vals,rfl,hac,hown⟩:=HR.o.one;go_wp2_with fail
   go_ret2
   have hd:=HR.o;rw[←pq.o]at hd;have:=hd.done;rw[pq.o,HTS.o]at this;exact this.up HB1.o
theorem QH(p:Nat)(w:World)(x:jK)(da:Option Addr)(dc:Nat)(h:¬(1≤x.kind∧x.kind≤17)):
  Calls Tryz.prog 69 #[ptr p,.agg (opC x da dc)] w (gU w ([],30)):=by
 have e1:(x.kind==1)=false:=by simp;omega
 have e2:(x.kind==2)=false:=by simp;omega
 have e3:(x.kind==3)=false:=by simp;omega
 have e4:(x.kind==4)=false:=by simp;omega
 have e5:(x.kind==5)=false:=by simp;omega
 have e6:(x.kind==6)=false:=by simp;omega
 have e7:(x.kind==7)=false:=by simp;omega
 have e8:(x.kind==8)=false:=by simp;omega
 have e9:(x.kind==9)=false:=by simp;omega
 have e10:(x.kind==10)=false:=by simp;omega
 have e11:(x.kind==11)=false:=by simp;omega
 have e12:(x.kind==12)=false:=by simp;omega
 have e13:(x.kind==13)=false:=by simp;omega
 have e14:(x.kind==14)=false:=by simp;omega
 have e15:(x.kind==15)=false:=by simp;omega
 have e16:(x.kind==16)=false:=by simp;omega
 have e17:(x.kind==17)=false:=by simp;omega
 clear h;unfold opC;go_enter Tryz.func69,Tryz.ntmps69;go_wp2_with fail
 go_ret2
 exact⟨none,0,0,[],rfl,rfl,Nat.le_refl _,ah.nil _ _ _,⟨rfl,fun i q hq=>by simp at hq⟩,wall w _⟩
theorem Ga(p:Nat)(w:World)(x:jK)(da:Option Addr)(dc:Nat)(hx:nN x)(m:Int)(hm:w.cell? ⟨0,0,none⟩=some (.int .i64 m)):
  Calls Tryz.prog 69 #[ptr p,.agg (opC x da dc)] w (gU w (gu x)):=by
 by_cases h:1≤x.kind∧x.kind≤17
 ·obtain⟨kd,pa,ig,fd,at_,n,aF,sn,dt⟩:=x;have h':1≤kd∧kd≤17:=h;have hp:pa.length<4294967281:=hx.wp;have hq:ig.length<4294967281:=hx.wq;have e:gu ⟨kd,pa,ig,fd,at_,n,aF,sn,dt⟩=gy (zi ⟨kd,pa,ig,fd,at_,n,aF,sn,dt⟩):=if_pos h;rw[e];rcases (show kd=1∨kd=2∨kd=3∨kd=4∨kd=5∨kd=6∨kd=7∨kd=8∨kd=9∨kd=10∨kd=11∨kd=12∨kd=13∨kd=14∨kd=15∨kd=16∨kd=17 by omega)with rfl|rfl|rfl|rfl|rfl|rfl|rfl|rfl|rfl|rfl|rfl|rfl|rfl|rfl|rfl|rfl|rfl
  all_goals first|exact Uo _ (by decide) p w pa ig fd at_ n aF sn dt da dc hp hq m hm|exact Us _ (by decide) p w pa ig fd at_ n aF sn dt da dc hp hq m hm|exact Ur _ (by decide) p w pa ig fd at_ n aF sn dt da dc hp hq m hm
 ·have e:gu x=([],30):=if_neg h;rw[e];exact QH p w x da dc h
inductive Bp (M:dQ) (x:jK):dQ→Prop
 |same:Bp M x M
 |make (ls:List Nm) (kind:Int):Bp M x (M.tr (bZ M.t ls kind).2)
 |create (ls:List Nm):0≤nC M→(bZ M.t ls 1).1.2=0→Bp M x (dQ.put (M.tr (bZ M.t ls 1).2) (nC M).toNat (some ⟨true,(bZ M.t ls 1).1.1,[]⟩))
 |opens (T:aA) (ls:List Nm) (y:bJ):mW M x.snap=some T→0≤nC M→(aY T ls).2=0→aj (aY T ls).1 T=some y→y.kind≠2→y.closed=true→Bp M x (M.put (nC M).toNat (some ⟨false,0,nZ T (aY T ls).1 0 y.b.length⟩))
 |write (f:FW):jF M x.fd true=some f→Bp M x (M.tr (cK M.t f.id x.data).2)
 |closes (f:FW):x.kind=6→jF M x.fd true=some f→(dY M.t f.id x.aF).1=0→Bp M x (dQ.put (M.tr (dY M.t f.id x.aF).2) x.fd.toNat none)
 |shut (f:FW):x.kind=6→jF M x.fd false=some f→Bp M x (M.put x.fd.toNat none)
 |link (p q:List Nm):Bp M x (M.tr (kW M.t p q).2)
 |unlink (ls:List Nm):(cO M.t ls).er=0→gF (cO M.t ls).k (cO M.t ls).l (cO M.t ls).u (cO M.t ls).c M.now=0→Bp M x (M.tr (bL M.t ls).2)
 |rmdir (ls:List Nm):Bp M x (M.tr (iC M.t ls).2)
 |rename (p q:List Nm):Bp M x (M.tr (eF M.t p q).2)
 |keep (ls:List Nm):(cO M.t ls).er=0→Bp M x (M.tr (jA M.t (cO M.t ls).i x.aF).2)
 |take:Bp M x (M.sn (jB M.s M.t).2)
 |forget:Bp M x (M.sn (iy M.s x.snap M.now).2)
 |tick:x.kind=16→Bp M x {M with now:=vH M.now x.aF}
section
variable{M:dQ}{x:jK}
theorem MG{T:aA}{id t:Int}(h:(dY T id t).1≠0):(dY T id t).2=T:=by
 unfold dY at h⊢;exact if_neg h
theorem MH(ls:List Nm):Bp M x (jl M ls).2:=by
 unfold jl;by_cases h1:nC M<0
 ·rw[if_pos h1];exact .same
 ·rw[if_neg h1];by_cases h2:(bZ M.t ls 1).1.2≠0
  ·rw[if_pos h2];exact .make ls 1
  ·rw[if_neg h2];exact .create ls (by omega) (by simpa using h2)
theorem Ut(ls:List Nm):Bp M x (vG M ls x.snap).2:=by
 unfold vG;split
 ·exact .same
 ·rename_i T hT;split
  ·exact .same
  ·rename_i hf;unfold JI;split
   ·exact .same
   ·rename_i h2;split
    ·exact .same
    ·rename_i y hy;split
     ·exact .same
     ·rename_i h3;split
      ·exact .same
      ·rename_i h4;exact .opens T ls y hT (by omega) (by simpa using h2) hy h3 (by simpa using h4)
theorem QI:Bp M x (iY M x).2:=by
 unfold iY;split
 ·exact .same
 ·rename_i f hf;split
  ·exact .same
  ·exact .write f hf
theorem QJ(h6:x.kind=6):Bp M x (iZ M x).2:=by
 unfold iZ;split
 ·rename_i f hf;split
  ·rename_i h2;have:=MG h2;dsimp only;rw[this];exact .same
  ·rename_i h2;exact .closes f h6 hf (by simpa using h2)
 ·split
  ·exact .same
  ·rename_i f hf;exact .shut f h6 hf
theorem MI(ls:List Nm):Bp M x (fP M ls).2:=by
 unfold fP;split
 ·exact .same
 ·split
  ·exact .same
  ·exact .unlink ls (by rename_i h1 h2;simpa using h1) (by rename_i h1 h2;simpa using h2)
theorem Uu(ls:List Nm):Bp M x (tH M ls x.aF).2:=by
 unfold tH;split
 ·exact .same
 ·split
  ·exact .same
  ·exact .keep ls (by rename_i h1 h2;simpa using h1)
theorem OD(M:dQ)(x:jK):Bp M x (fE M x).2:=by
 unfold fE;by_cases h0:(gu x).2≠0
 ·rw[if_pos h0];exact .same
 rw[if_neg h0];unfold f_;by_cases h1:x.kind=1
 ·rw[if_pos h1];exact MH _
 rw[if_neg h1];by_cases h2:x.kind=2
 ·rw[if_pos h2];exact .make _ _
 rw[if_neg h2];by_cases h3:x.kind=3
 ·rw[if_pos h3];exact Ut _
 rw[if_neg h3];by_cases h4:x.kind=4
 ·rw[if_pos h4];exact .same
 rw[if_neg h4];by_cases h5:x.kind=5
 ·rw[if_pos h5];exact QI
 rw[if_neg h5];by_cases h6:x.kind=6
 ·rw[if_pos h6];exact QJ h6
 rw[if_neg h6];by_cases h7:x.kind=7
 ·rw[if_pos h7];exact .link _ _
 rw[if_neg h7];by_cases h8:x.kind=8
 ·rw[if_pos h8];exact MI _
 rw[if_neg h8];by_cases h9:x.kind=9
 ·rw[if_pos h9];exact .rmdir _
 rw[if_neg h9];by_cases h10:x.kind=10
 ·rw[if_pos h10];exact .rename _ _
 rw[if_neg h10];by_cases h11:x.kind=11∨x.kind=12
 ·rw[if_pos h11];exact .same
 rw[if_neg h11];by_cases h13:x.kind=13
 ·rw[if_pos h13];exact Uu _
 rw[if_neg h13];by_cases h14:x.kind=14
 ·rw[if_pos h14];exact .take
 rw[if_neg h14];by_cases h15:x.kind=15
 ·rw[if_pos h15];exact .forget
 rw[if_neg h15];by_cases h16:x.kind=16
 ·rw[if_pos h16];exact .tick h16
 rw[if_neg h16];exact .same
theorem Uv(now tick:Int):now≤vH now tick:=by
 unfold vH;split
 ·split
  ·omega
  ·omega
 ·omega
theorem Bp.now{M':dQ}(h:Bp M x M'):M.now≤M'.now∧(x.kind≠16→M'.now=M.now):=by
 cases h with
 |tick h16=>exact⟨Uv _ _,fun h=>absurd h16 h⟩
 |same=>exact⟨aaS _,fun _=>rfl⟩
 |make ls kind=>exact⟨aaS _,fun _=>rfl⟩
 |create ls h1 h2=>exact⟨aaS _,fun _=>rfl⟩
 |opens T ls y h1 h2 h3 h4 h5 h6=>exact⟨aaS _,fun _=>rfl⟩
 |write f h1=>exact⟨aaS _,fun _=>rfl⟩
 |closes f h1 h2 h3=>exact⟨aaS _,fun _=>rfl⟩
 |shut f h1 h2=>exact⟨aaS _,fun _=>rfl⟩
 |link p q=>exact⟨aaS _,fun _=>rfl⟩
 |unlink ls h1 h2=>exact⟨aaS _,fun _=>rfl⟩
 |rmdir ls=>exact⟨aaS _,fun _=>rfl⟩
 |rename p q=>exact⟨aaS _,fun _=>rfl⟩
 |keep ls h1=>exact⟨aaS _,fun _=>rfl⟩
 |take=>exact⟨aaS _,fun _=>rfl⟩
 |forget=>exact⟨aaS _,fun _=>rfl⟩
theorem Uw(M:dQ):nC M= -1∨∃n:Nat,n<8∧nC M=n∧M.fds n=none:=by
 unfold nC;split
 ·rename_i n hn;have h1:=aci hn;have h2:=List.find?_some hn;rw[ab2]at h1;exact .inr ⟨n,h1,rfl,by cases hf:M.fds n with|none=>rfl|some f=>rw[hf]at h2;cases h2⟩
 ·exact .inl rfl
theorem Ao(M:dQ){n m:Nat}(f:Option FW)(h:m≠n):(M.put n f).fds m=M.fds m:=if_neg h
theorem Bp.fd{M':dQ}(h:Bp M x M'){n:Nat}{f:FW}(hf:M.fds n=some f)(hx:¬(x.kind=6∧x.fd.toNat=n)):M'.fds n=some f:=by
 have hfree:∀g,0≤nC M→(M.put (nC M).toNat g).fds n=some f:=fun g h0=>by
  rcases Uw M with e|⟨m,h1,h2,h3⟩
  ·omega
  ·rw[Ao _ _ (fun e=>by rw[h2]at e;simp at e;subst e;rw[h3]at hf;cases hf)];exact hf
 cases h with
 |create ls h1 h2=>exact hfree _ h1
 |opens T ls y h1 h2 h3 h4 h5 h6=>exact hfree _ h2
 |closes g h1 h2 h3=>rw[Ao _ _ (fun e=>hx ⟨h1,e.symm⟩)];exact hf
 |shut g h1 h2=>rw[Ao _ _ (fun e=>hx ⟨h1,e.symm⟩)];exact hf
 |same=>exact hf
 |make ls kind=>exact hf
 |write g h1=>exact hf
 |link p q=>exact hf
 |unlink ls h1 h2=>exact hf
 |rmdir ls=>exact hf
 |rename p q=>exact hf
 |keep ls h1=>exact hf
 |take=>exact hf
 |forget=>exact hf
 |tick h1=>exact hf
end
structure ZN(i j k l n:Nat):Prop where
 mm:Mk i j k l
 ne:n≠0∧n≠i∧n≠j∧n≠k∧n≠l
def Bq(o:Mark)(i j k l n:Nat)(w:World)(p:Nat)(q:su×dQ)(e:Ending)(w':World):Prop:=
 ∃o',DC o' q.1 e w'∧Step o (fun m=>m=i∨m=j∨m=k∨m=l∨m=n) w o' w'∧eG o' i j k w' p q.2
structure mZ(W:World)(o:Mark)(i j k l n:Nat)(w:World)(p:Nat)(x:jK)(da:Option Addr)(dc:Nat)(o1:Mark)(w3:World)(M:dQ):Prop where
 mm:ZN i j k l n
 st:eG o1 i j k w3 p M
 marks:Marks W o1 w3
 step:Step o (fun m=>m=i∨m=j∨m=k∨m=l∨m=n) w o1 w3
 op:w3.heap[w.heap.size]? =some (.cells (opC x da dc) 30 (0,0))
 re:w3.heap[w.heap.size+1]? =some (.cells (jd (dR 0) none none 0 0) 41 (0,0))
 om:o1 w.heap.size=0
 rm:o1 (w.heap.size+1)=n
section
variable{W w w3 w4 w5:World}{o o1 o4:Mark}{i j k l n p:Nat}{M M':dQ}{x:jK}{da:Option Addr}{dc:Nat}
theorem mZ.start(hk:ZN i j k l n)(hS:eG o i j k w p M)(hM:Marks W o w)(x:jK)(da:Option Addr)(dc:Nat):∃o1,mZ W o i j k l n w p x da dc o1 ((w.alloc (.cells (opC x da dc) 30)).alloc (.cells (jd (dR 0) none none 0 0) 41)) M:=by
 obtain⟨w2,hw2⟩:∃w2,w2=(w.alloc (.cells (opC x da dc) 30)).alloc (.cells (jd (dR 0) none none 0 0) 41):=⟨_,rfl⟩;have hb2:Below w.heap.size w w2:=by rw[hw2];exact(wall w _).trans ((wall _ _).mono (by simp))
 have hop:w2.heap[w.heap.size]? =some (.cells (opC x da dc) 30 (0,0)):=by
  rw[hw2];exact((wall _ _).block _ (by simp)).trans (MapKept.heap_alloc w _).1
 have hre:w2.heap[w.heap.size+1]? =some (.cells (jd (dR 0) none none 0 0) 41 (0,0)):=by
  rw[hw2];have:=(MapKept.heap_alloc (w.alloc (.cells (opC x da dc) 30)) (.cells (jd (dR 0) none none 0 0) 41)).1;rw[Pe]at this;exact this
 rw[←hw2];obtain⟨m0,m1,m2,m3,m4⟩:=hk.ne;obtain⟨o1,hs1,hl1,hl2⟩:=iQ hM n (fun b=>b=w.heap.size+1) (w':=w2) (fun b hb=>by subst hb;exact⟨by omega,(iL.1 hre).1⟩) hb2;exact⟨o1,hk,hS.step (fun e=>m0 e.symm) (fun e=>m1 e.symm) (fun e=>m2 e.symm) (fun e=>m3 e.symm) hs1,hM.step (fun e=>m0 e.symm) hs1,hs1.mono fun m hm=> .inr (.inr (.inr (.inr hm))),hop,hre,(hl2 w.heap.size (by omega)).trans (Decidable.byContradiction fun h9=>by have:=(hM.new _ h9).2;omega),hl1 _ rfl⟩
theorem mZ.n0(hk:ZN i j k l n):¬((0:Nat)=i∨0=j∨0=k∨0=l):=by
 obtain⟨n1,n2,n3,n4,-⟩:=hk.mm.ne;omega
theorem mZ.grow(h:mZ W o i j k l n w p x da dc o1 w3 M)(hb:Below w3.heap.size w3 w4):mZ W o i j k l n w p x da dc o1 w4 M:=
 ⟨h.mm,h.st.grow h.marks hb,h.marks.grow hb,h.step.trans (Step.grow h.marks hb),(hb.block _ (iL.1 h.op).1).trans h.op,(hb.block _ (iL.1 h.re).1).trans h.re,h.om,h.rm⟩
theorem mZ.turn(h:mZ W o i j k l n w p x da dc o1 w3 M)(hs:Step o1 (fun m=>m=i∨m=j∨m=k∨m=l) w3 o4 w4)(hS:eG o4 i j k w4 p M'):mZ W o i j k l n w p x da dc o4 w4 M':=by
 obtain⟨m0,m1,m2,m3,m4⟩:=h.mm.ne;have h0:=mZ.n0 h.mm;have hr:=(iL.1 h.re).1;have hp:=(iL.1 h.op).1;refine⟨h.mm,hS,h.marks.step h0 hs,h.step.trans (hs.mono fun m hm=>by omega),(hs.block hp (by rw[h.om];exact h0)).trans h.op,(hs.block hr (by rw[h.rm];omega)).trans h.re,(hs.old _ hp).trans h.om,(hs.old _ hr).trans h.rm⟩
theorem mZ.stays(h:mZ W o i j k l n w p x da dc o1 w3 M)(hs:Step o1 (fun m=>m=i∨m=j∨m=k∨m=l) w3 o4 w4){b:Nat}(hb:o1 b=0∧b<w3.heap.size):w4.heap[b]? =w3.heap[b]? :=hs.block hb.2 (by rw[hb.1];exact mZ.n0 h.mm)
theorem mZ.clock(h:mZ W o i j k l n w p x da dc o1 w3 M)(u:Int):w3.cell? ⟨p,2,none⟩=some (.int .u64 M.now)∧w3.frozen? ⟨p,2,none⟩=false∧mZ W o i j k l n w p x da dc o1 (w3.setCell ⟨p,2,none⟩ (.int .u64 u)) {M with now:=u}:=by
 obtain⟨n1,n2,n3,n4,n5,n6,n7,n8,n9,n10⟩:=h.mm.mm.ne;obtain⟨t,s,v,h1,h2,h3,h4⟩:=h.st.at_;obtain⟨z0,z1,z2,z3,z4⟩:=lq h1;have hz:=size_set w3 ⟨p,2,none⟩ (.int .u64 u);have hst:Step o1 (fun m=>m=k) w3 o1 (w3.setCell ⟨p,2,none⟩ (.int .u64 u)):=⟨fun _ _=>rfl,fun b hb hn=>absurd (h.marks.new b hn).2 (by omega),(Keeps.gI w3 ⟨p,2,none⟩ _).mono fun x _ hx=>by
  have hx:x=p:=hx;rw[hx];exact h.st.own⟩
 have h0:¬(fun m=>m=k) 0:=fun e=>n3 e.symm;refine⟨z2,z4 2,h.turn (hst.mono fun m hm=> .inr (.inr (.inl hm))) ⟨⟨t,s,v,?_,h2.step h0 n6 hst,h3.step h0 n8 hst,fun m hm=>(h4 m hm).step h0 hst⟩,h.st.own,by have:=h.st.low;omega⟩⟩;have:=aO (i:=2) (v:= .int .u64 u) h1;rw[st_now]at this;exact this
theorem mZ.fin{r:su}{JN JO:Option Addr}{JQ JR:Nat}(h:mZ W o i j k l n w p x da dc o1 w4 M)(hs:jH w4 (w.heap.size+1) (jd r JN JO JQ JR) 41 w5)(k1:r.data.length≤JQ)(k2:r.names.length≤JR)(k3:ah (Free o1 w4) w4 JN r.data.length (r.data.map bv))(k4:aT (Free o1 w4) w4 JO r.names.length (r.names.map strOf)):
  Bq o i j k l n w p (r,M) (.returned (.agg (jd r JN JO JQ JR))) w5:=by
 obtain⟨m0,m1,m2,m3,m4⟩:=h.mm.ne;have hst:=hs.step h.marks h.rm;have hn0:¬(fun m=>m=n) 0:=fun e=>m0 e.symm;exact⟨o1,⟨_,rfl,JN,JO,JQ,JR,rfl,k1,k2,k3.free hn0 hst,⟨k4.row.free hn0 hst,k4.short⟩⟩,h.step.trans (hst.mono fun m hm=> .inr (.inr (.inr (.inr hm)))),h.st.step hn0 (fun e=>m1 e.symm) (fun e=>m2 e.symm) (fun e=>m3 e.symm) hst⟩
theorem mZ.Ux{r:su}(h:mZ W o i j k l n w p x da dc o1 w4 M)(hs:jH w4 (w.heap.size+1) (jd r none none 0 0) 41 w5)(k1:r.data=[])(k2:r.names=[]):
  Bq o i j k l n w p (r,M) (.returned (.agg (jd r none none 0 0))) w5:=
 h.fin hs (by rw[k1];exact Nat.le_refl _) (by rw[k2];exact Nat.le_refl _) (by rw[k1];exact ah.nil _ _ _) (by rw[k2];exact mV _ _)
end
theorem Gb{a:List UInt8}(h:(ak a).2=0):(ak a).1.length≤8:=by
 cases a with
 |nil=>simp[ak]
 |cons c r=>
  by_cases hc:c≠47
  ·simp[ak,hc]
  ·by_cases hr:r=[]
   ·have e:ak (c::r)=([],0):=by unfold ak;dsimp only;rw[if_neg hc,if_pos hr]
    rw[e];simp
   ·by_cases hf:bH (bR r)=0
    ·have e:ak (c::r)=(bR r,0):=by unfold ak;dsimp only;rw[if_neg hc,if_neg hr,if_pos hf]
     rw[e];unfold bH at hf;split at hf
     ·simp at hf
     ·split at hf
      ·simp at hf
      ·dsimp only;omega
    ·have e:ak (c::r)=([],bH (bR r)):=by unfold ak;dsimp only;rw[if_neg hc,if_neg hr,if_neg hf]
     rw[e];simp
theorem gU.zero{w w':World}{e:Ending}{er:Int}(h:gU w ([],er) e w'):∃a c,e= .returned (.tuple #[.slice a 0 c,.int .i64 er])∧Below w.heap.size w w':=by
 obtain⟨a,n,c,vs,h1,h2,h3,h4,h5,h6⟩:=h;have h2:n=0:=h2;subst h2;exact⟨a,c,h1,h6⟩
structure NmAt(B:Nat)(w:World)(b off:Nat)(q:List Nm)(a0:Option Addr)(c0:Nat):Prop where
 cell:w.cell? ⟨b,off,none⟩=some (.slice a0 q.length c0)
 cap:q.length≤c0
 strs:aT (fun b=>B≤b∧b<w.heap.size) w a0 q.length (q.map strOf)
theorem gU.one{w w':World}{e:Ending}{q:List Nm}(h:gU w ([q],0) e w'):∃b off c a0 c0,e= .returned (.tuple #[.slice (some ⟨b,off,none⟩) 1 c,.int .i64 0])∧w.heap.size≤b∧b<w'.heap.size∧NmAt w.heap.size w' b off q a0 c0∧Below w.heap.size w w':=by
 obtain⟨a,n,c,vs,h1,h2,h3,h4,h5,h6⟩:=h;have h2:n=1:=h2;subst h2;obtain⟨b,off,rfl,hb,hbw,hc⟩:=h4.at_ (by omega);obtain⟨u,hu,a0,c0,rfl,k2,k3⟩:=h5.2 0 q rfl;exact⟨b,off,c,a0,c0,h1,hb.1,hbw,⟨(hc 0 (by omega)).trans hu,k2,k3⟩,h6⟩
theorem MJ{a:List UInt8}(h:(gy [a]).2=0):gy [a]=([(ak a).1],0)∧(ak a).2=0:=by
 unfold gy at h⊢;by_cases h1:(ak a).2≠0
 ·rw[if_pos h1]at h;exact absurd h h1
 ·rw[if_neg h1];exact⟨rfl,by simpa using h1⟩
theorem qy{P:Program}{ops:Array Oper}{o:Oper}{a:Act}{w:World}{K:Act→World→Prop}{Q:Exit→Act→World→Prop}{E:Prop}(hgd:o.guard=none)(ty:TypeId)(x y:Operand)(ho:o.op= .store ty x y)
  (g:Nat)(cells:Array Value)(hx:a.eval x= .pointer (some ⟨g,0,none⟩))(hy:a.eval y= .agg cells)
  (old:Array Value)(hg:w.heap[g]? =some (.cells old ty (0,0)))(hi:(P.info? ty).map (·.size)=some cells.size)
  (hold:old.size=cells.size)(h1:cells.all (·.oneCell')=true)
  (h:∀w',jH w g cells ty w'→K (a.put o.dst undef) w'):if Region.wanted o (yielded ops a.tmps)=true then Oper.wp P o a w K Q else E:=by
 have hw:Region.wanted o (yielded ops a.tmps)=true:=by simp[Region.wanted,hgd]
 rw[if_pos hw];exact wp_store_row ty x y ho g cells hx hy ty old hg hi hold h1 (h _ (Dy w g old cells ty hg))
structure QK(S:Nat→Prop)(W:World)(o:Mark)(i j k l n:Nat)(w:World)(p:Nat)(M:dQ)(cc:Int)(x:jK)(da:Option Addr)(dc:Nat)(m:Int):Prop where
 st:eG o i j k w p M
 marks:Marks W o w
 m5:ZN i j k l n
 ok:fQ cc M
 few:cc≤1000000000
 op:nN x
 row:ah S w da x.data.length (x.data.map bv)
 max:w.cell? ⟨0,0,none⟩=some (.int .i64 m)
 paths:(gu x).2=0
section
variable{W w w2 w3:World}{o o1:Mark}{i j k l n p:Nat}{M:dQ}{x:jK}{da:Option Addr}{dc:Nat}{S:Nat→Prop}{cc m:Int}{e:Ending}{q q':List Nm}
theorem QK.pre(h:QK S W o i j k l n w p M cc x da dc m):∃o1 w2,acs (mZ W o i j k l n w p x da dc o1 w2 M)∧acs (ah S w2 da x.data.length (x.data.map bv))∧acs (Calls Tryz.prog 69 #[ptr p,.agg (opC x da dc)] ((w.alloc (.cells (opC x da dc) 30)).alloc (.cells (jd (dR 0) none none 0 0) 41)) (gU w2 (gu x)))∧acs (fQ cc M)∧acs (nN x)∧acs (ZN i j k l n)∧cc≤1000000000:=by
 obtain⟨o1,hd2⟩:=mZ.start h.m5 h.st h.marks x da dc;have hb2:Below w.heap.size w ((w.alloc (.cells (opC x da dc) 30)).alloc (.cells (jd (dR 0) none none 0 0) 41)):=(wall w _).trans ((wall _ _).mono (by simp));exact⟨o1,_,hd2,h.row.below hb2 acu,Ga p _ x da dc h.op m ((hb2.cell (p:=⟨0,0,none⟩) (aaj w _ h.max)).trans h.max),h.ok,h.op,h.m5,h.few⟩
theorem mZ.none_(h:mZ W o i j k l n w p x da dc o1 w2 M)(hr:gU w2 ([],0) e w3)(hd:ah S w2 da x.data.length (x.data.map bv)):∃a3 c3,e= .returned (.tuple #[.slice a3 0 c3,.int .i64 0])∧acs (mZ W o i j k l n w p x da dc o1 w3 M)∧acs (Below w2.heap.size w2 w3)∧acs (ah S w3 da x.data.length (x.data.map bv))∧w3.cell? ⟨w.heap.size,0,none⟩=some (.int .i64 x.kind):=by
 obtain⟨a3,c3,he,hb⟩:=hr.zero;have h3:=h.grow hb;exact⟨a3,c3,he,h3,hb,hd.below hb acu,by simp[World.cell?,h3.op,opC]⟩
theorem mZ.one(h:mZ W o i j k l n w p x da dc o1 w2 M)(hr:gU w2 ([q],0) e w3)(hd:ah S w2 da x.data.length (x.data.map bv)):∃b off c3 a0 c0,e= .returned (.tuple #[.slice (some ⟨b,off,none⟩) 1 c3,.int .i64 0])∧acs (mZ W o i j k l n w p x da dc o1 w3 M)∧acs (Below w2.heap.size w2 w3)∧acs (o1 b=0∧b<w3.heap.size)∧acs (NmAt w2.heap.size w3 b off q a0 c0)∧acs (ah S w3 da x.data.length (x.data.map bv))∧w3.cell? ⟨w.heap.size,0,none⟩=some (.int .i64 x.kind)∧w3.cell? ⟨b,off,none⟩=some (.slice a0 q.length c0):=by
 obtain⟨b,off,c3,a0,c0,he,hb0,hbw,hn,hb⟩:=hr.one;have h3:=h.grow hb;exact⟨b,off,c3,a0,c0,he,h3,hb,⟨Decidable.byContradiction fun h0=>by have:=(h.marks.new b h0).2;omega,hbw⟩,hn,hd.below hb acu,by simp[World.cell?,h3.op,opC],hn.cell⟩
theorem OE(M:dQ)(e:gu x=([],0)):fE M x=f_ M x [] []:=by unfold fE;rw[e];rfl
theorem Uy(M:dQ)(e:gu x=gy [x.path])(hp:(gu x).2=0):∃q0,gu x=([q0],0)∧fE M x=f_ M x q0 []∧q0.length≤8:=by
 rw[e]at hp;obtain⟨h1,h2⟩:=MJ hp;exact⟨_,e.trans h1,by unfold fE;rw[e,h1];rfl,Gb h2⟩
end
section
variable{W w:World}{o:Mark}{i j k l n p:Nat}{M:dQ}{S:Nat→Prop}{cc m:Int}{pa ig:List UInt8}{fd at_ nn aF sn:Int}{dt:List UInt8}{da:Option Addr}{dc:Nat}
theorem sdo_k1(h:QK S W o i j k l n w p M cc ⟨1,pa,ig,fd,at_,nn,aF,sn,dt⟩ da dc m):
  Calls Tryz.prog 25 #[ptr p,.agg (opC ⟨1,pa,ig,fd,at_,nn,aF,sn,dt⟩ da dc)] w (Bq o i j k l n w p (fE M ⟨1,pa,ig,fd,at_,nn,aF,sn,dt⟩)):=by
 obtain⟨o1,w2,HD2,uT,zP,jO,HX,HK,hcc⟩:=h.pre;obtain⟨q0,hps,hsd,h80⟩:=Uy M rfl h.paths;rw[hps]at zP;unfold opC jd dR at zP;dsimp only[List.length_nil]at zP uT;have kG:=acr hsd;clear h hps hsd;unfold opC;go_enter Tryz.func25,Tryz.ntmps25;go_wp2_with fail;refine zP.o.mono ?_;clear zP;intro e w3 hpr;obtain⟨b,off,c3,a0,c0,rfl,HD,HB3,HBF,QL,Fp,g0,hc0⟩:=HD2.o.one hpr uT.o;dsimp only at g0 Fp;clear hpr HD2 uT;have hsd:fE M ⟨1,pa,ig,fd,at_,nn,aF,sn,dt⟩=jl M q0:=kG.o;replace kG:=acr hsd;clear hsd;obtain⟨rr,hrr⟩:∃rr,rr=jl M q0:=⟨_,rfl⟩;have HC:=acr (JH HD.o.st HD.o.marks HD.o.mm.mm jO.o.t.1 a0 q0.length c0 q0 QL.o.strs QL.o.cap (by omega));rw[←hrr]at HC;rw[←hrr]at kG;clear hrr;go_wp2_with fail;refine HC.o.mono ?_;rintro e w4 ⟨o4,⟨v4,rfl,JN,JO,JQ,JR,rfl,k1,k2,k3,k4⟩,hs4,uH⟩;have HD4:=acr (HD.o.turn hs4 uH);have Bc:=acr (And.intro k1 (And.intro k2 (And.intro k3 k4)));clear k1 k2 k3 k4 hs4 uH HC;go_wp2_with (refine aJ (by rfl) 41 _ _ (by rfl) (w.heap.size+1) (jd (rr.1) JN JO JQ JR) (by rfl) (by rfl) _ HD4.o.re iH rfl (iX _ _ _ _ _) ?_;intro w5 hs5;have eU:=acr hs5;clear hs5);exact kC rfl rfl rfl eU.o.1 (by rw[kG.o];exact HD4.o.fin eU.o Bc.o.1 Bc.o.2.1 Bc.o.2.2.1 Bc.o.2.2.2)
end
end Go.Proofs.YtjnhnlabpccgjaaGreatDoor
