/- path.Split. package state: paths: what it gives. package state: paths, kinds 1 2 3 8. -/
import Derived.Test.YtmabllemjkcobaaGreatDoorM33
namespace Go.Proofs.YtmabllemjkcobaaGreatDoor
open Go.ChangeShapes Go.WideShapes Go.ChangeAt Go.RowKit
set_option linter.unusedVariables false
theorem QJ (ss:List ByteArray):(I5 ss).length=ss.length:=by simp[I5]
theorem Nv {w:World} {e:TypeId} {ss:List ByteArray} {n:Nat} (hn:ss.length=n) (hm:n≤maxLen) (hs:∀s∈ss,s.size≤maxLen):aO (vM w.heap.size) (w.alloc (.cells (ss.map Value.string).toArray e)) (some ⟨w.heap.size,0,none⟩) n ss:=by
 refine⟨⟨by simpa using hn,hm,fun _=>⟨w.heap.size,0,rfl,Nat.le_refl _,by simp,fun i hi=> ?_⟩⟩,hs⟩
 have hh:(w.alloc (.cells (ss.map Value.string).toArray e)).heap[w.heap.size]? =some (.cells (ss.map Value.string).toArray e):=(MapKept.heap_alloc w _).1
 simp only[World.cell?,hh,Nat.zero_add]
 simp
theorem QK (ss:List ByteArray):ss.any xA=(I5 ss).any (fun x=> !dM x):=by
 unfold I5;rw[List.any_map];rfl
theorem Nw (ss:List ByteArray):vJ ss=bG (I5 ss):=by
 unfold vJ bG;rw[QK,QJ]
def Ny (w:World) (l:List UInt8) (e:Ending) (w':World):Prop:=
 ∃a len cap ss,e= .returned (.tuple #[.slice a len cap, .int .i64 (av l).2])∧len≤cap∧I5 ss=(av l).1∧aO (vM w.heap.size) w' a len ss∧Below w.heap.size w w'
theorem iP (s:ByteArray) (w:World) (hs:s.size<4294967281) (m:Int) (hm:w.cell? ⟨0,0,none⟩=some (.int .i64 m)):
  Calls Tryz.prog 94 #[.string s] w (Ny w s.data.toList):=by
 obtain⟨l,hl⟩:∃l,s.data.toList=l:=⟨_,rfl⟩
 rw[hl]
 have hsl:s.size=l.length:=by rw[←hl];simp
 have HC:=Tryz.strings_CutPrefix s ⟨#[47]⟩
 rw[hl]at HC
 have ways:(Lib.hasPrefix l [47]=false∧av l=([],12))∨(l=[47]∧av l=([],0))∨(∃r,r≠[]∧l=47::r∧av l=if bG (dA r)=0 then(dA r,0)else([],bG (dA r))):=by
  cases l with
  |nil=>exact Or.inl ⟨rfl,rfl⟩
  |cons c r=>
   by_cases h:c=47
   ·subst h
    by_cases hr:r=[]
    ·subst hr;exact Or.inr (Or.inl ⟨rfl,rfl⟩)
    ·exact Or.inr (Or.inr ⟨r,hr,rfl,by simp[av,hr]⟩)
   ·refine Or.inl ⟨?_,by simp[av,h]⟩
    simp[Lib.hasPrefix,List.isPrefixOf]
    exact fun e=>h e.symm
 clear hl
 rcases ways with⟨h1,h2⟩|⟨h1,h2⟩|⟨r,h1,h2,h3⟩
 ·have HP:=Lib.hid h2
  rw[h1]at HC
  clear h1 h2 hsl
  go_enter Tryz.func94,Tryz.ntmps94
  go_wp2_with fail
  refine(HC _).mono ?_
  rintro e w1 ⟨rfl,rfl⟩
  clear HC
  go_wp2_with fail
  go_ret2
  exact⟨none,0,0,[],by rw[HP.out];rfl,by simp,by rw[HP.out];rfl,⟨aj.nil _ _ _,by simp⟩,Below.refl _ _⟩
 ·have HP:=Lib.hid h2
  subst h1
  clear h2 hsl
  rw[show Lib.trimPrefix [47] [47]=[]from rfl,show Lib.hasPrefix [47] [47]=true from rfl]at HC
  go_enter Tryz.func94,Tryz.ntmps94
  go_wp2_with fail
  refine(HC _).mono ?_
  rintro e w1 ⟨rfl,rfl⟩
  clear HC
  go_wp2_with fail
  go_ret2
  exact⟨none,0,0,[],by rw[HP.out];rfl,by simp,by rw[HP.out];rfl,⟨aj.nil _ _ _,by simp⟩,Below.refl _ _⟩
 ·subst h2
  have HP:=Lib.hid h3
  clear h3
  have e1:Lib.trimPrefix (47::r) [47]=r:=by simp[Lib.trimPrefix,Lib.hasPrefix,List.isPrefixOf]
  have e2:Lib.hasPrefix (47::r) [47]=true:=by simp[Lib.hasPrefix,List.isPrefixOf]
  rw[show(⟨#[47]⟩:ByteArray).data.toList=[47]from rfl,e1,e2]at HC
  clear e1 e2
  obtain⟨t,ht⟩:∃t,t=bmk r:=⟨_,rfl⟩
  have ht':(⟨r.toArray⟩:ByteArray)=t:=ht.symm
  rw[ht']at HC
  have htl:t.data.toList=r:=by rw[ht];rfl
  have hts:t.size=r.length:=by rw[ht,Nu]
  have hte:=ByteArray.toList_eq t
  rw[htl]at hte
  have ht1:¬t.toList=[]:=by rw[hte];exact h1
  have ht2:t.toList.isEmpty=false:=by rw[hte];simpa using h1
  have hsz:t.size<4294967281:=by rw[hts];simp at hsl;omega
  clear ht ht' hte
  obtain⟨hB,hcn⟩:=Cw t
  rw[htl]at hB hcn
  have hlen:(Lib.splitB ⟨#[47]⟩ 0 (Lib.countB t ⟨#[47]⟩) t).length=Lib.countB t ⟨#[47]⟩+1:=by
   have:=congrArg List.length hB
   rw[List.length_map,zi]at this
   omega
  have hcl:Lib.countB t ⟨#[47]⟩+1≤r.length+1:=by rw[hcn];have:=List.count_le_length (a:=(47:UInt8)) (l:=r);omega
  have hshort:∀x∈Lib.splitB ⟨#[47]⟩ 0 (Lib.countB t ⟨#[47]⟩) t,x.size≤maxLen:=by
   intro x hx
   have h5:x.data.toList∈dA r:=by rw[←hB];exact List.mem_map.2 ⟨x,hx,rfl⟩
   have:=IW r _ h5
   have h6:x.data.toList.length=x.size:=by simp
   unfold maxLen
   omega
  obtain⟨ss,hss⟩:∃ss,ss=Lib.splitB ⟨#[47]⟩ 0 (Lib.countB t ⟨#[47]⟩) t:=⟨_,rfl⟩
  have HS:=Tryz.strings_Split t ⟨#[47]⟩ m w hsz hm (by decide)
  obtain⟨n,hn⟩:∃n,n=Lib.countB t ⟨#[47]⟩+1:=⟨_,rfl⟩
  rw[←hss,←hn]at HS
  rw[←hss]at hB hlen hshort
  rw[←hn]at hlen hcl
  have hnm:n≤maxLen:=by unfold maxLen;omega
  have HSt:=Nv (w:=w) (e:=9) hlen hnm hshort
  have HF:=Cu (S:=vM w.heap.size) (some ⟨w.heap.size,0,none⟩) n n ss _ HSt
  rw[Nw,show I5 ss=dA r from hB]at HF
  have HB:=Lib.hid hB
  clear hB hlen hshort hss hn hcn hcl hnm htl hts hsl
  cases hf:(bG (dA r) !=0)
  ·have hf0:bG (dA r)=0:=by simpa using hf
   have Tx:=Lib.hid hf0
   clear hf0
   go_enter Tryz.func94,Tryz.ntmps94
   go_wp2_with fail
   refine(HC _).mono ?_
   rintro e w1 ⟨rfl,rfl⟩
   clear HC
   go_wp2_with fail
   refine HS.mono ?_
   rintro e w1 ⟨rfl,rfl⟩
   go_wp2_with fail
   refine HF.mono ?_
   rintro e w1 ⟨rfl,hb⟩
   go_wp2_with fail
   go_ret2
   refine⟨_,n,n,ss,by rw[HP.out,if_pos Tx.out];rfl,Nat.le_refl _,by rw[HP.out,if_pos Tx.out];exact HB.out,HSt.below hb (by simp),((Below.refl _ _).alloc (Nat.le_refl _) _).trans (hb.mono (by simp))⟩
  ·have hf0:bG (dA r)≠0:=by simpa using hf
   have Tx:=Lib.hid hf0
   clear hf0
   go_enter Tryz.func94,Tryz.ntmps94
   go_wp2_with fail
   refine(HC _).mono ?_
   rintro e w1 ⟨rfl,rfl⟩
   clear HC
   go_wp2_with fail
   refine HS.mono ?_
   rintro e w1 ⟨rfl,rfl⟩
   go_wp2_with fail
   refine HF.mono ?_
   rintro e w1 ⟨rfl,hb⟩
   go_wp2_with fail
   go_ret2
   refine⟨none,0,0,[],by rw[HP.out,if_neg Tx.out];rfl,by simp,by rw[HP.out,if_neg Tx.out];rfl,⟨aj.nil _ _ _,by simp⟩,((Below.refl _ _).alloc (Nat.le_refl _) _).trans (hb.mono (by simp))⟩
set_option linter.unusedSimpArgs false
theorem sF:∀(ts:List (List UInt8)),(∀t∈ts,(av t).2=0)→cB ts=(ts.map fun t=>(av t).1,0)
 |[],_=>rfl
 |t::r,h=>by
  have h1:=h t (by simp)
  have h2:=sF r fun x hx=>h x (by simp[hx])
  unfold cB
  rw[if_neg (by rw[h1];simp),h2,if_neg (by simp)]
  rfl
theorem eG:∀(ts:List (List UInt8)) (k:Nat) (t:List UInt8),ts[k]? =some t→(∀x∈ts.take k,(av x).2=0)→(av t).2≠0→cB ts=([],(av t).2)
 |[],k,t,h,_,_=>by simp at h
 |a::r,0,t,h,_,h2=>by
  have h:a=t:=by simpa using h
  subst h
  unfold cB
  rw[if_pos h2]
 |a::r,k+1,t,h,h1,h2=>by
  have h3:=eG r k t (by simpa using h) (fun x hx=>h1 x (by rw[List.take_succ_cons];simp[hx])) h2
  unfold cB
  rw[if_neg (by rw[h1 a (by rw[List.take_succ_cons];simp)];simp),h3,if_pos h2]
theorem QL (ss:List ByteArray):(I5 ss).map strOf=ss:=by
 unfold I5
 rw[List.map_map]
 have:(strOf∘fun s:ByteArray=>s.data.toList)=id:=by
  funext s
  show strOf s.data.toList=s
  cases s;rfl
 rw[this,List.map_id]
def aR (w:World) (ps:List (List Nm)×Int) (e:Ending) (w':World):Prop:=
 ∃a n c vs,e= .returned (.tuple #[.slice a n c, .int .i64 ps.2])∧n=ps.1.length∧n≤c∧aj (fun b=>w.heap.size≤b∧b<w'.heap.size) w' a n vs∧mZ (fun b=>w.heap.size≤b∧b<w'.heap.size) w' vs ps.1∧Below w.heap.size w w'
def aG (w:World) (ts:List (List UInt8)) (k:Nat) (v:Value) (wr:World):Prop:=
 ∃vals,wr.ownsRow w.heap.size 32 1 v k vals∧mZ (fun b=>w.heap.size≤b∧b<wr.heap.size∧v.ownBlock≠some b) wr vals ((ts.take k).map fun t=>(av t).1)∧Below w.heap.size w wr∧∀t∈ts.take k,(av t).2=0
theorem aG.start {w wr:World} (ts:List (List UInt8)) (hb:Below w.heap.size w wr):aG w ts 0 (.slice none 0 0) wr:=
 ⟨[],⟨rfl, .inl ⟨rfl,rfl⟩⟩,⟨rfl,fun i q hq=>by simp at hq⟩,hb,fun t ht=>by simp at ht⟩
theorem aG.one {w:World} {ts:List (List UInt8)} {k:Nat} {v:Value} {wr:World} (h:aG w ts k v wr):∃a c vals,v= .slice a k c∧k≤c∧wr.ownsRow w.heap.size 32 1 v k vals:=by
 obtain⟨vals,h1,h2⟩:=h
 obtain⟨a,c,h3,h4⟩:=bF h1
 exact⟨a,c,vals,h3,h4,h1⟩
theorem aG.next {w w2 w3 w4:World} {ts:List (List UInt8)} {k:Nat} {v v':Value} {wr:World} {t:List UInt8} {a:Option Addr} {len cap:Nat} {ss:List ByteArray} {vals:List Value}
  (h1:wr.ownsRow w.heap.size 32 1 v k vals) (h2:mZ (fun b=>w.heap.size≤b∧b<wr.heap.size∧v.ownBlock≠some b) wr vals ((ts.take k).map fun t=>(av t).1)) (h3:Below w.heap.size w wr) (h4:∀t∈ts.take k,(av t).2=0)
  (ht:ts[k]? =some t) (h0:(av t).2=0) (hlc:len≤cap) (hbs:I5 ss=(av t).1) (hS:aO (vM wr.heap.size) w2 a len ss) (hb2:Below wr.heap.size wr w2) (hb3:Below w2.heap.size w2 w3)
  (hown:w4.ownsRow w.heap.size 32 1 v' (k+1) (vals++[.slice a len cap])) (hg:w3.grownBy w4 v.ownBlock) (TF:v'.ownBlock=v.ownBlock∨v'.ownBlock=some w3.heap.size):aG w ts (k+1) v' w4:=by
 have hs2:=hb2.size
 have hs3:=hb3.size
 have hs1:=h3.size
 have hs4:=hg.size
 have T_:∀b,v.ownBlock=some b→b<wr.heap.size:=dY h1
 have hne:∀b,b<w3.heap.size→v.ownBlock≠some b→v'.ownBlock≠some b:=fun b hb hn=>by
  rcases TF with e|e
  ·rw[e];exact hn
  ·rw[e];simp;omega
 refine⟨_,hown,?_,(h3.trans ((hb2.trans (hb3.mono hs2)).mono hs1)).grown hg (by omega) (dG h1),fun x hx=> ?_⟩
 ·have e:(ts.take (k+1)).map (fun t=>(av t).1)=(ts.take k).map (fun t=>(av t).1)++[(av t).1]:=by
   obtain⟨hk,e⟩:=List.getElem?_eq_some_iff.1 ht
   rw[List.take_succ_eq_append_getElem hk,List.map_append,e];rfl
  rw[e]
  refine mZ.append (h2.move (by omega) fun b hb hbw=>⟨⟨hb.1,by omega,hne b (by omega) hb.2.2⟩,?_⟩) ⟨rfl,fun i q hq=> ?_⟩
  ·exact((hg.block b (by omega) (fun e=>hb.2.2 e.symm)).trans (hb3.block b (by omega))).trans (hb2.block b hbw)
  ·rcases i with _|i
   ·have hq:(av t).1=q:=by simpa using hq
    subst hq
    refine⟨_,rfl,?_⟩
    have hl:=hS.length
    have hss:ss=((av t).1).map strOf:=by rw[←hbs,QL]
    have hll:len=(av t).1.length:=by rw[←hl,hss,List.length_map]
    subst hll
    rw[hss]at hS
    refine⟨a,cap,rfl,hlc,hS.row.move (by omega) fun b hb hbw=> ?_,hS.short⟩
    have hb:wr.heap.size≤b:=hb
    have hvn:v.ownBlock≠some b:=fun e=>by have:=T_ b e;omega
    exact⟨⟨by omega,by omega,hne b (by omega) hvn⟩,(hg.block b (by omega) (fun e=>hvn e.symm)).trans (hb3.block b hbw)⟩
   ·simp at hq
 ·obtain⟨hk,e⟩:=List.getElem?_eq_some_iff.1 ht
  rw[List.take_succ_eq_append_getElem hk,e]at hx
  rcases List.mem_append.1 hx with hx|hx
  ·exact h4 x hx
  ·rw[List.mem_singleton.1 hx];exact h0
theorem aG.done {w:World} {ts:List (List UInt8)} {v:Value} {wr:World} (h:aG w ts ts.length v wr):aR w (cB ts) (.returned (.tuple #[v, .int .i64 0])) wr:=by
 obtain⟨vals,h1,h2,h3,h4⟩:=h
 rw[List.take_of_length_le (Nat.le_refl _)]at h2 h4
 rw[sF ts h4]
 obtain⟨a,c,rfl,hc⟩:=bF h1
 exact⟨a,ts.length,c,vals,rfl,by simp,hc,(aj.qL h1).2,h2.move (Nat.le_refl _) fun b hb _=>⟨⟨hb.1,hb.2.1⟩,rfl⟩,h3⟩
theorem aR.up {w w1 wr:World} {ps:List (List Nm)×Int} {e:Ending} (h:aR w1 ps e wr) (hb:Below w.heap.size w w1):aR w ps e wr:=by
 obtain⟨a,n,c,vs,h1,h2,h3,h4,h5,h6⟩:=h
 have:=hb.size
 exact⟨a,n,c,vs,h1,h2,h3,h4.mono fun b hb'=>⟨by omega,hb'.2⟩,h5.move (Nat.le_refl _) fun b hb' _=>⟨⟨by omega,hb'.2⟩,rfl⟩,hb.trans (h6.mono hb.size)⟩
theorem eH:(Tryz.prog.info? 32).map (fun i=>(i.zero,i.size,i.bytes))=some (some (.slice none 0 0),1,24):=by kernel_rfl
set_option maxRecDepth 100000 in
set_option maxHeartbeats 8000000 in
theorem Nz (p:Nat) (w:World) (pa aA:List UInt8) (fd at_ n au sn:Int) (dt:List UInt8) (da:Option Addr) (dc:Nat) (hpa:pa.length<4294967281) (hto:aA.length<4294967281) (m:Int) (hm:w.cell? ⟨0,0,none⟩=some (.int .i64 m)):
  Calls Tryz.prog 36 #[ptr p, .agg (opC ⟨1,pa,aA,fd,at_,n,au,sn,dt⟩ da dc)] w (aR w (cB [pa])):=by
 obtain⟨ie,he,hz0,hz1,hz2⟩:=info_parts eH
 have gq:0<w.heap.size:=World.block_lt_of_cell? w _ hm
 obtain⟨w1,hw1⟩:∃w1,w1=(w.alloc (.cells (opC ⟨1,pa,aA,fd,at_,n,au,sn,dt⟩ da dc) 28)).alloc (.cells #[.string (strOf pa)] 9):=⟨_,rfl⟩
 have hb1:Below w.heap.size w w1:=by rw[hw1];exact(wall w _).trans ((wall _ _).mono (by simp))
 have hbl:w1.heap[w.heap.size+1]? =some (.cells #[.string (strOf pa)] 9 (0,0)):=by
  rw[hw1]
  have:=(MapKept.heap_alloc (w.alloc (.cells (opC ⟨1,pa,aA,fd,at_,n,au,sn,dt⟩ da dc) 28)) (.cells #[.string (strOf pa)] 9)).1
  rw[World.size_alloc]at this
  exact this
 have hrow:∀k t,([pa]:List (List UInt8))[k]? =some t→w1.cell? ⟨w.heap.size+1,k,none⟩=some (.string (strOf t))∧t.length<4294967281:=fun k t h=>by
  rcases k with _|k
  ·obtain rfl:pa=t:=by simpa using h
   exact⟨by simp[World.cell?,hbl],hpa⟩
  ·simp at h
 have hbz:w.heap.size+1<w1.heap.size:=(Array.getElem?_eq_some_iff.1 hbl).1
 clear hbl
 have dS:=Lib.hid hrow
 have HB1:=Lib.hid hb1
 have HW:=Lib.hid hw1
 have HM:=Lib.hid hm
 have oK:=Lib.hid gq
 clear hrow hb1 hw1 hm hpa hto gq
 unfold opC at HW
 unfold opC
 go_enter Tryz.func36,Tryz.ntmps36
 go_wp2_with fail
 rw[←HW.out]
 clear HW
 obtain⟨ts,hts⟩:∃ts:List (List UInt8),ts=[pa]:=⟨_,rfl⟩
 have hnn:ts.length=1:=by rw[hts];rfl
 rw[←hts]at dS
 have oh:=Lib.hid hts
 clear hts
 have gF:=Lib.hid hnn
 clear hnn
 go_loopw [7,44] (fun v iv wr=>∃k:Nat,k≤1∧iv= .int .i64 k∧aG w1 ts k v wr) (fun _ iv _=>1-(intOf iv).toNat)
 case atStart=>exact⟨0,by omega,rfl,aG.start ts (Below.refl _ _)⟩
 case round=>
  obtain⟨k,hk,rfl,hrel⟩:=hrel
  have HR:=Lib.hid hrel
  clear hrel
  by_cases hlt:k<1
  ·obtain⟨t,ht⟩:∃t,ts[k]? =some t:=⟨ts[k]'(by rw[gF.out];exact hlt),List.getElem?_eq_getElem _⟩
   obtain⟨hc1,hts⟩:=dS.out k t ht
   obtain⟨vals,hown,hpv,hbw,hok⟩:=HR.out
   have hcell:=(hbw.cell (p:=⟨w.heap.size+1,k,none⟩) hbz).trans hc1
   have hmr:wr.cell? ⟨0,0,none⟩=some (.int .i64 m):=((HB1.out.trans (hbw.mono HB1.out.size)).cell (p:=⟨0,0,none⟩) oK.out).trans HM.out
   have t_:=Lib.hid (iP (strOf t) wr (by rw[dJ];exact hts) m hmr)
   have HT:=Lib.hid ht
   have HOWN:=Lib.hid hown
   have Bz:=Lib.hid hpv
   have nA:=Lib.hid hbw
   have fu:=Lib.hid hok
   have i0:(0:Int)≤(k:Int):=by omega
   have i1:(k:Int)<1:=by omega
   have hsz:=hbw.size
   have hd:decide ((k:Int)<1)=true:=by simpa using i1
   obtain⟨ao,co,rfl,hac⟩:=bF hown
   clear hown hpv hbw hok ht hc1 hts hmr
   go_wp2_with fail
   (with_reducible refine t_.out.mono ?_)
   rintro e w2 ⟨a,len,cap,ss,rfl,hlc,hbs,hS,hb2⟩
   rw[show(strOf t).data.toList=t from rfl]at hbs⊢
   have y9:=Lib.hid hbs
   have HS:=Lib.hid hS
   have HB2:=Lib.hid hb2
   have uw:=Lib.hid hlc
   have hs2:=hb2.size
   clear t_ hbs hS hb2 hlc
   obtain⟨z,hz⟩:∃z,z=(av t).2:=⟨_,rfl⟩
   rw[←hz]
   by_cases hzz:z=0
   ·have HZ:=Lib.hid (hz.symm.trans hzz)
    subst hzz
    clear hz
    go_wp2_with (at_builtin;refine aW (by rfl) _ _ 69 (by rfl) w1.heap.size 32 ie (.slice none 0 0) 24 Tryz.underlying69 he hz0 hz1 hz2 rfl _ _ _ (by rfl) (cK HOWN.out fun b hb _=>((wall w2 (.cells #[.slice a len cap] 32)).block b (by have:=dY HOWN.out b hb;omega)).trans (HB2.out.block b (dY HOWN.out b hb))) (some ⟨w2.heap.size,0,none⟩) 1 1 [.slice a len cap] (by rfl) (jm _ _) (by intro u hu;rw[List.mem_singleton.1 hu];rfl) (by unfold maxLen;omega) (by omega) (by simp;omega) ?_;intro A' c' w4 fI dw _ kI)
    have HN:=Lib.hid (aG.next HOWN.out Bz.out nA.out fu.out HT.out HZ.out uw.out y9.out HS.out HB2.out (wall w2 _) fI dw kI)
    have QM:=Lib.hid dw
    clear fI dw kI
    go_roundw
    case rel=>
     exact⟨k+1,by omega,by go_num,HN.out⟩
    case measure=>simp[intOf];omega
   ·have HZ:=Lib.hid hzz
    have hz2:(z !=0)=true:=by simpa using hzz
    have uf:=Lib.hid hz
    clear hzz hz
    go_wp2_with fail
    go_ret2
    rw[←oh.out,eG ts k t HT.out fu.out (by rw[←uf.out];exact HZ.out)]
    exact⟨none,0,0,[],by rw[uf.out];rfl,rfl,Nat.le_refl _,aj.nil _ _ _,⟨rfl,fun i q hq=>by simp at hq⟩,HB1.out.trans ((nA.out.trans (HB2.out.mono nA.out.size)).mono HB1.out.size)⟩
  ·have hd:decide ((k:Int)<1)=false:=by simp;omega
   obtain rfl:k=1:=by omega
   obtain⟨a,c,vals,rfl,hac,hown⟩:=HR.out.one
   clear hown
   go_wp2_with fail
   go_ret2
   have hd:=HR.out
   rw[←gF.out]at hd
   have:=hd.done
   rw[gF.out,oh.out]at this
   exact this.up HB1.out
set_option maxRecDepth 100000 in
set_option maxHeartbeats 8000000 in
theorem NA (p:Nat) (w:World) (pa aA:List UInt8) (fd at_ n au sn:Int) (dt:List UInt8) (da:Option Addr) (dc:Nat) (hpa:pa.length<4294967281) (hto:aA.length<4294967281) (m:Int) (hm:w.cell? ⟨0,0,none⟩=some (.int .i64 m)):
  Calls Tryz.prog 36 #[ptr p, .agg (opC ⟨2,pa,aA,fd,at_,n,au,sn,dt⟩ da dc)] w (aR w (cB [pa])):=by
 obtain⟨ie,he,hz0,hz1,hz2⟩:=info_parts eH
 have gq:0<w.heap.size:=World.block_lt_of_cell? w _ hm
 obtain⟨w1,hw1⟩:∃w1,w1=(w.alloc (.cells (opC ⟨2,pa,aA,fd,at_,n,au,sn,dt⟩ da dc) 28)).alloc (.cells #[.string (strOf pa)] 9):=⟨_,rfl⟩
 have hb1:Below w.heap.size w w1:=by rw[hw1];exact(wall w _).trans ((wall _ _).mono (by simp))
 have hbl:w1.heap[w.heap.size+1]? =some (.cells #[.string (strOf pa)] 9 (0,0)):=by
  rw[hw1]
  have:=(MapKept.heap_alloc (w.alloc (.cells (opC ⟨2,pa,aA,fd,at_,n,au,sn,dt⟩ da dc) 28)) (.cells #[.string (strOf pa)] 9)).1
  rw[World.size_alloc]at this
  exact this
 have hrow:∀k t,([pa]:List (List UInt8))[k]? =some t→w1.cell? ⟨w.heap.size+1,k,none⟩=some (.string (strOf t))∧t.length<4294967281:=fun k t h=>by
  rcases k with _|k
  ·obtain rfl:pa=t:=by simpa using h
   exact⟨by simp[World.cell?,hbl],hpa⟩
  ·simp at h
 have hbz:w.heap.size+1<w1.heap.size:=(Array.getElem?_eq_some_iff.1 hbl).1
 clear hbl
 have dS:=Lib.hid hrow
 have HB1:=Lib.hid hb1
 have HW:=Lib.hid hw1
 have HM:=Lib.hid hm
 have oK:=Lib.hid gq
 clear hrow hb1 hw1 hm hpa hto gq
 unfold opC at HW
 unfold opC
 go_enter Tryz.func36,Tryz.ntmps36
 go_wp2_with fail
 rw[←HW.out]
 clear HW
 obtain⟨ts,hts⟩:∃ts:List (List UInt8),ts=[pa]:=⟨_,rfl⟩
 have hnn:ts.length=1:=by rw[hts];rfl
 rw[←hts]at dS
 have oh:=Lib.hid hts
 clear hts
 have gF:=Lib.hid hnn
 clear hnn
 go_loopw [7,44] (fun v iv wr=>∃k:Nat,k≤1∧iv= .int .i64 k∧aG w1 ts k v wr) (fun _ iv _=>1-(intOf iv).toNat)
 case atStart=>exact⟨0,by omega,rfl,aG.start ts (Below.refl _ _)⟩
 case round=>
  obtain⟨k,hk,rfl,hrel⟩:=hrel
  have HR:=Lib.hid hrel
  clear hrel
  by_cases hlt:k<1
  ·obtain⟨t,ht⟩:∃t,ts[k]? =some t:=⟨ts[k]'(by rw[gF.out];exact hlt),List.getElem?_eq_getElem _⟩
   obtain⟨hc1,hts⟩:=dS.out k t ht
   obtain⟨vals,hown,hpv,hbw,hok⟩:=HR.out
   have hcell:=(hbw.cell (p:=⟨w.heap.size+1,k,none⟩) hbz).trans hc1
   have hmr:wr.cell? ⟨0,0,none⟩=some (.int .i64 m):=((HB1.out.trans (hbw.mono HB1.out.size)).cell (p:=⟨0,0,none⟩) oK.out).trans HM.out
   have t_:=Lib.hid (iP (strOf t) wr (by rw[dJ];exact hts) m hmr)
   have HT:=Lib.hid ht
   have HOWN:=Lib.hid hown
   have Bz:=Lib.hid hpv
   have nA:=Lib.hid hbw
   have fu:=Lib.hid hok
   have i0:(0:Int)≤(k:Int):=by omega
   have i1:(k:Int)<1:=by omega
   have hsz:=hbw.size
   have hd:decide ((k:Int)<1)=true:=by simpa using i1
   obtain⟨ao,co,rfl,hac⟩:=bF hown
   clear hown hpv hbw hok ht hc1 hts hmr
   go_wp2_with fail
   (with_reducible refine t_.out.mono ?_)
   rintro e w2 ⟨a,len,cap,ss,rfl,hlc,hbs,hS,hb2⟩
   rw[show(strOf t).data.toList=t from rfl]at hbs⊢
   have y9:=Lib.hid hbs
   have HS:=Lib.hid hS
   have HB2:=Lib.hid hb2
   have uw:=Lib.hid hlc
   have hs2:=hb2.size
   clear t_ hbs hS hb2 hlc
   obtain⟨z,hz⟩:∃z,z=(av t).2:=⟨_,rfl⟩
   rw[←hz]
   by_cases hzz:z=0
   ·have HZ:=Lib.hid (hz.symm.trans hzz)
    subst hzz
    clear hz
    go_wp2_with (at_builtin;refine aW (by rfl) _ _ 69 (by rfl) w1.heap.size 32 ie (.slice none 0 0) 24 Tryz.underlying69 he hz0 hz1 hz2 rfl _ _ _ (by rfl) (cK HOWN.out fun b hb _=>((wall w2 (.cells #[.slice a len cap] 32)).block b (by have:=dY HOWN.out b hb;omega)).trans (HB2.out.block b (dY HOWN.out b hb))) (some ⟨w2.heap.size,0,none⟩) 1 1 [.slice a len cap] (by rfl) (jm _ _) (by intro u hu;rw[List.mem_singleton.1 hu];rfl) (by unfold maxLen;omega) (by omega) (by simp;omega) ?_;intro A' c' w4 fI dw _ kI)
    have HN:=Lib.hid (aG.next HOWN.out Bz.out nA.out fu.out HT.out HZ.out uw.out y9.out HS.out HB2.out (wall w2 _) fI dw kI)
    have QM:=Lib.hid dw
    clear fI dw kI
    go_roundw
    case rel=>
     exact⟨k+1,by omega,by go_num,HN.out⟩
    case measure=>simp[intOf];omega
   ·have HZ:=Lib.hid hzz
    have hz2:(z !=0)=true:=by simpa using hzz
    have uf:=Lib.hid hz
    clear hzz hz
    go_wp2_with fail
    go_ret2
    rw[←oh.out,eG ts k t HT.out fu.out (by rw[←uf.out];exact HZ.out)]
    exact⟨none,0,0,[],by rw[uf.out];rfl,rfl,Nat.le_refl _,aj.nil _ _ _,⟨rfl,fun i q hq=>by simp at hq⟩,HB1.out.trans ((nA.out.trans (HB2.out.mono nA.out.size)).mono HB1.out.size)⟩
  ·have hd:decide ((k:Int)<1)=false:=by simp;omega
   obtain rfl:k=1:=by omega
   obtain⟨a,c,vals,rfl,hac,hown⟩:=HR.out.one
   clear hown
   go_wp2_with fail
   go_ret2
   have hd:=HR.out
   rw[←gF.out]at hd
   have:=hd.done
   rw[gF.out,oh.out]at this
   exact this.up HB1.out
set_option maxRecDepth 100000 in
set_option maxHeartbeats 8000000 in
theorem NC (p:Nat) (w:World) (pa aA:List UInt8) (fd at_ n au sn:Int) (dt:List UInt8) (da:Option Addr) (dc:Nat) (hpa:pa.length<4294967281) (hto:aA.length<4294967281) (m:Int) (hm:w.cell? ⟨0,0,none⟩=some (.int .i64 m)):
  Calls Tryz.prog 36 #[ptr p, .agg (opC ⟨3,pa,aA,fd,at_,n,au,sn,dt⟩ da dc)] w (aR w (cB [pa])):=by
 obtain⟨ie,he,hz0,hz1,hz2⟩:=info_parts eH
 have gq:0<w.heap.size:=World.block_lt_of_cell? w _ hm
 obtain⟨w1,hw1⟩:∃w1,w1=(w.alloc (.cells (opC ⟨3,pa,aA,fd,at_,n,au,sn,dt⟩ da dc) 28)).alloc (.cells #[.string (strOf pa)] 9):=⟨_,rfl⟩
 have hb1:Below w.heap.size w w1:=by rw[hw1];exact(wall w _).trans ((wall _ _).mono (by simp))
 have hbl:w1.heap[w.heap.size+1]? =some (.cells #[.string (strOf pa)] 9 (0,0)):=by
  rw[hw1]
  have:=(MapKept.heap_alloc (w.alloc (.cells (opC ⟨3,pa,aA,fd,at_,n,au,sn,dt⟩ da dc) 28)) (.cells #[.string (strOf pa)] 9)).1
  rw[World.size_alloc]at this
  exact this
 have hrow:∀k t,([pa]:List (List UInt8))[k]? =some t→w1.cell? ⟨w.heap.size+1,k,none⟩=some (.string (strOf t))∧t.length<4294967281:=fun k t h=>by
  rcases k with _|k
  ·obtain rfl:pa=t:=by simpa using h
   exact⟨by simp[World.cell?,hbl],hpa⟩
  ·simp at h
 have hbz:w.heap.size+1<w1.heap.size:=(Array.getElem?_eq_some_iff.1 hbl).1
 clear hbl
 have dS:=Lib.hid hrow
 have HB1:=Lib.hid hb1
 have HW:=Lib.hid hw1
 have HM:=Lib.hid hm
 have oK:=Lib.hid gq
 clear hrow hb1 hw1 hm hpa hto gq
 unfold opC at HW
 unfold opC
 go_enter Tryz.func36,Tryz.ntmps36
 go_wp2_with fail
 rw[←HW.out]
 clear HW
 obtain⟨ts,hts⟩:∃ts:List (List UInt8),ts=[pa]:=⟨_,rfl⟩
 have hnn:ts.length=1:=by rw[hts];rfl
 rw[←hts]at dS
 have oh:=Lib.hid hts
 clear hts
 have gF:=Lib.hid hnn
 clear hnn
 go_loopw [7,44] (fun v iv wr=>∃k:Nat,k≤1∧iv= .int .i64 k∧aG w1 ts k v wr) (fun _ iv _=>1-(intOf iv).toNat)
 case atStart=>exact⟨0,by omega,rfl,aG.start ts (Below.refl _ _)⟩
 case round=>
  obtain⟨k,hk,rfl,hrel⟩:=hrel
  have HR:=Lib.hid hrel
  clear hrel
  by_cases hlt:k<1
  ·obtain⟨t,ht⟩:∃t,ts[k]? =some t:=⟨ts[k]'(by rw[gF.out];exact hlt),List.getElem?_eq_getElem _⟩
   obtain⟨hc1,hts⟩:=dS.out k t ht
   obtain⟨vals,hown,hpv,hbw,hok⟩:=HR.out
   have hcell:=(hbw.cell (p:=⟨w.heap.size+1,k,none⟩) hbz).trans hc1
   have hmr:wr.cell? ⟨0,0,none⟩=some (.int .i64 m):=((HB1.out.trans (hbw.mono HB1.out.size)).cell (p:=⟨0,0,none⟩) oK.out).trans HM.out
   have t_:=Lib.hid (iP (strOf t) wr (by rw[dJ];exact hts) m hmr)
   have HT:=Lib.hid ht
   have HOWN:=Lib.hid hown
   have Bz:=Lib.hid hpv
   have nA:=Lib.hid hbw
   have fu:=Lib.hid hok
   have i0:(0:Int)≤(k:Int):=by omega
   have i1:(k:Int)<1:=by omega
   have hsz:=hbw.size
   have hd:decide ((k:Int)<1)=true:=by simpa using i1
   obtain⟨ao,co,rfl,hac⟩:=bF hown
   clear hown hpv hbw hok ht hc1 hts hmr
   go_wp2_with fail
   (with_reducible refine t_.out.mono ?_)
   rintro e w2 ⟨a,len,cap,ss,rfl,hlc,hbs,hS,hb2⟩
   rw[show(strOf t).data.toList=t from rfl]at hbs⊢
   have y9:=Lib.hid hbs
   have HS:=Lib.hid hS
   have HB2:=Lib.hid hb2
   have uw:=Lib.hid hlc
   have hs2:=hb2.size
   clear t_ hbs hS hb2 hlc
   obtain⟨z,hz⟩:∃z,z=(av t).2:=⟨_,rfl⟩
   rw[←hz]
   by_cases hzz:z=0
   ·have HZ:=Lib.hid (hz.symm.trans hzz)
    subst hzz
    clear hz
    go_wp2_with (at_builtin;refine aW (by rfl) _ _ 69 (by rfl) w1.heap.size 32 ie (.slice none 0 0) 24 Tryz.underlying69 he hz0 hz1 hz2 rfl _ _ _ (by rfl) (cK HOWN.out fun b hb _=>((wall w2 (.cells #[.slice a len cap] 32)).block b (by have:=dY HOWN.out b hb;omega)).trans (HB2.out.block b (dY HOWN.out b hb))) (some ⟨w2.heap.size,0,none⟩) 1 1 [.slice a len cap] (by rfl) (jm _ _) (by intro u hu;rw[List.mem_singleton.1 hu];rfl) (by unfold maxLen;omega) (by omega) (by simp;omega) ?_;intro A' c' w4 fI dw _ kI)
    have HN:=Lib.hid (aG.next HOWN.out Bz.out nA.out fu.out HT.out HZ.out uw.out y9.out HS.out HB2.out (wall w2 _) fI dw kI)
    have QM:=Lib.hid dw
    clear fI dw kI
    go_roundw
    case rel=>
     exact⟨k+1,by omega,by go_num,HN.out⟩
    case measure=>simp[intOf];omega
   ·have HZ:=Lib.hid hzz
    have hz2:(z !=0)=true:=by simpa using hzz
    have uf:=Lib.hid hz
    clear hzz hz
    go_wp2_with fail
    go_ret2
    rw[←oh.out,eG ts k t HT.out fu.out (by rw[←uf.out];exact HZ.out)]
    exact⟨none,0,0,[],by rw[uf.out];rfl,rfl,Nat.le_refl _,aj.nil _ _ _,⟨rfl,fun i q hq=>by simp at hq⟩,HB1.out.trans ((nA.out.trans (HB2.out.mono nA.out.size)).mono HB1.out.size)⟩
  ·have hd:decide ((k:Int)<1)=false:=by simp;omega
   obtain rfl:k=1:=by omega
   obtain⟨a,c,vals,rfl,hac,hown⟩:=HR.out.one
   clear hown
   go_wp2_with fail
   go_ret2
   have hd:=HR.out
   rw[←gF.out]at hd
   have:=hd.done
   rw[gF.out,oh.out]at this
   exact this.up HB1.out
set_option maxRecDepth 100000 in
set_option maxHeartbeats 8000000 in
theorem ND (p:Nat) (w:World) (pa aA:List UInt8) (fd at_ n au sn:Int) (dt:List UInt8) (da:Option Addr) (dc:Nat) (hpa:pa.length<4294967281) (hto:aA.length<4294967281) (m:Int) (hm:w.cell? ⟨0,0,none⟩=some (.int .i64 m)):
  Calls Tryz.prog 36 #[ptr p, .agg (opC ⟨8,pa,aA,fd,at_,n,au,sn,dt⟩ da dc)] w (aR w (cB [pa])):=by
 obtain⟨ie,he,hz0,hz1,hz2⟩:=info_parts eH
 have gq:0<w.heap.size:=World.block_lt_of_cell? w _ hm
 obtain⟨w1,hw1⟩:∃w1,w1=(w.alloc (.cells (opC ⟨8,pa,aA,fd,at_,n,au,sn,dt⟩ da dc) 28)).alloc (.cells #[.string (strOf pa)] 9):=⟨_,rfl⟩
 have hb1:Below w.heap.size w w1:=by rw[hw1];exact(wall w _).trans ((wall _ _).mono (by simp))
 have hbl:w1.heap[w.heap.size+1]? =some (.cells #[.string (strOf pa)] 9 (0,0)):=by
  rw[hw1]
  have:=(MapKept.heap_alloc (w.alloc (.cells (opC ⟨8,pa,aA,fd,at_,n,au,sn,dt⟩ da dc) 28)) (.cells #[.string (strOf pa)] 9)).1
  rw[World.size_alloc]at this
  exact this
 have hrow:∀k t,([pa]:List (List UInt8))[k]? =some t→w1.cell? ⟨w.heap.size+1,k,none⟩=some (.string (strOf t))∧t.length<4294967281:=fun k t h=>by
  rcases k with _|k
  ·obtain rfl:pa=t:=by simpa using h
   exact⟨by simp[World.cell?,hbl],hpa⟩
  ·simp at h
 have hbz:w.heap.size+1<w1.heap.size:=(Array.getElem?_eq_some_iff.1 hbl).1
 clear hbl
 have dS:=Lib.hid hrow
 have HB1:=Lib.hid hb1
 have HW:=Lib.hid hw1
 have HM:=Lib.hid hm
 have oK:=Lib.hid gq
 clear hrow hb1 hw1 hm hpa hto gq
 unfold opC at HW
 unfold opC
 go_enter Tryz.func36,Tryz.ntmps36
 go_wp2_with fail
 rw[←HW.out]
 clear HW
 obtain⟨ts,hts⟩:∃ts:List (List UInt8),ts=[pa]:=⟨_,rfl⟩
 have hnn:ts.length=1:=by rw[hts];rfl
 rw[←hts]at dS
 have oh:=Lib.hid hts
 clear hts
 have gF:=Lib.hid hnn
 clear hnn
 go_loopw [7,44] (fun v iv wr=>∃k:Nat,k≤1∧iv= .int .i64 k∧aG w1 ts k v wr) (fun _ iv _=>1-(intOf iv).toNat)
 case atStart=>exact⟨0,by omega,rfl,aG.start ts (Below.refl _ _)⟩
 case round=>
  obtain⟨k,hk,rfl,hrel⟩:=hrel
  have HR:=Lib.hid hrel
  clear hrel
  by_cases hlt:k<1
  ·obtain⟨t,ht⟩:∃t,ts[k]? =some t:=⟨ts[k]'(by rw[gF.out];exact hlt),List.getElem?_eq_getElem _⟩
   obtain⟨hc1,hts⟩:=dS.out k t ht
   obtain⟨vals,hown,hpv,hbw,hok⟩:=HR.out
   have hcell:=(hbw.cell (p:=⟨w.heap.size+1,k,none⟩) hbz).trans hc1
   have hmr:wr.cell? ⟨0,0,none⟩=some (.int .i64 m):=((HB1.out.trans (hbw.mono HB1.out.size)).cell (p:=⟨0,0,none⟩) oK.out).trans HM.out
   have t_:=Lib.hid (iP (strOf t) wr (by rw[dJ];exact hts) m hmr)
   have HT:=Lib.hid ht
   have HOWN:=Lib.hid hown
   have Bz:=Lib.hid hpv
   have nA:=Lib.hid hbw
   have fu:=Lib.hid hok
   have i0:(0:Int)≤(k:Int):=by omega
   have i1:(k:Int)<1:=by omega
   have hsz:=hbw.size
   have hd:decide ((k:Int)<1)=true:=by simpa using i1
   obtain⟨ao,co,rfl,hac⟩:=bF hown
   clear hown hpv hbw hok ht hc1 hts hmr
   go_wp2_with fail
   (with_reducible refine t_.out.mono ?_)
   rintro e w2 ⟨a,len,cap,ss,rfl,hlc,hbs,hS,hb2⟩
   rw[show(strOf t).data.toList=t from rfl]at hbs⊢
   have y9:=Lib.hid hbs
   have HS:=Lib.hid hS
   have HB2:=Lib.hid hb2
   have uw:=Lib.hid hlc
   have hs2:=hb2.size
   clear t_ hbs hS hb2 hlc
   obtain⟨z,hz⟩:∃z,z=(av t).2:=⟨_,rfl⟩
   rw[←hz]
   by_cases hzz:z=0
   ·have HZ:=Lib.hid (hz.symm.trans hzz)
    subst hzz
    clear hz
    go_wp2_with (at_builtin;refine aW (by rfl) _ _ 69 (by rfl) w1.heap.size 32 ie (.slice none 0 0) 24 Tryz.underlying69 he hz0 hz1 hz2 rfl _ _ _ (by rfl) (cK HOWN.out fun b hb _=>((wall w2 (.cells #[.slice a len cap] 32)).block b (by have:=dY HOWN.out b hb;omega)).trans (HB2.out.block b (dY HOWN.out b hb))) (some ⟨w2.heap.size,0,none⟩) 1 1 [.slice a len cap] (by rfl) (jm _ _) (by intro u hu;rw[List.mem_singleton.1 hu];rfl) (by unfold maxLen;omega) (by omega) (by simp;omega) ?_;intro A' c' w4 fI dw _ kI)
    have HN:=Lib.hid (aG.next HOWN.out Bz.out nA.out fu.out HT.out HZ.out uw.out y9.out HS.out HB2.out (wall w2 _) fI dw kI)
    have QM:=Lib.hid dw
    clear fI dw kI
    go_roundw
    case rel=>
     exact⟨k+1,by omega,by go_num,HN.out⟩
    case measure=>simp[intOf];omega
   ·have HZ:=Lib.hid hzz
    have hz2:(z !=0)=true:=by simpa using hzz
    have uf:=Lib.hid hz
    clear hzz hz
    go_wp2_with fail
    go_ret2
    rw[←oh.out,eG ts k t HT.out fu.out (by rw[←uf.out];exact HZ.out)]
    exact⟨none,0,0,[],by rw[uf.out];rfl,rfl,Nat.le_refl _,aj.nil _ _ _,⟨rfl,fun i q hq=>by simp at hq⟩,HB1.out.trans ((nA.out.trans (HB2.out.mono nA.out.size)).mono HB1.out.size)⟩
  ·have hd:decide ((k:Int)<1)=false:=by simp;omega
   obtain rfl:k=1:=by omega
   obtain⟨a,c,vals,rfl,hac,hown⟩:=HR.out.one
   clear hown
   go_wp2_with fail
   go_ret2
   have hd:=HR.out
   rw[←gF.out]at hd
   have:=hd.done
   rw[gF.out,oh.out]at this
   exact this.up HB1.out
end Go.Proofs.YtmabllemjkcobaaGreatDoor
