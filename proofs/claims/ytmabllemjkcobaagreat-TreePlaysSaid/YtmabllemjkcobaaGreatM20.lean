/- The reference: right, look, Look, file. The reference's lists, plainly: what becomes of the nodes and of the entries. The reference: Look, place, file, rights. Rows whose elements have more than one cell: append. -/
import Derived.Test.YtmabllemjkcobaaGreatM19
import Derived.Test.YtmabllemjkcobaaGreatM18
namespace Go.Proofs.YtmabllemjkcobaaGreat
open Go.ChangeShapes Go.WideShapes Go.ChangeAt Go.RowKit
set_option linter.unusedVariables false
set_option linter.unusedSimpArgs false
theorem jU {T:aG} (hs:aS g_ T) {e:iT}:e∈aT T↔∃x,aj e.1 T=some x∧e.2∈x.names:=by
 unfold aT
 rw[List.mem_flatMap]
 constructor
 ·rintro ⟨q,hq,he⟩
  obtain⟨y,hy,rfl⟩:=List.mem_map.1 he
  exact⟨q.2,bf dU hs hq,hy⟩
 ·rintro ⟨x,hx,he⟩
  exact⟨(e.1,x),bP hx,List.mem_map.2 ⟨e.2,he,rfl⟩⟩
theorem sj {T:aG} (hs:aS g_ T) {id:Int} {x:bW} {nm:Nm} (hx:aj id T=some x) (hn:aj nm x.names=none):pG (gP id nm) (aT T)= -1:=by
 refine nM ?_
 rw[List.any_eq_false]
 intro e he h
 obtain⟨y,hy,hm⟩:=(jU hs).1 he
 simp only[gP,decide_eq_true_eq]at h
 rw[h.1,hx]at hy
 cases hy
 exact iX.1 hn _ hm h.2
theorem qh {T:aG} (hT:yQ T) {id j:Int} {x:bW} {nm:Nm} (hx:aj id T=some x) (hn:aj nm x.names=some j):∃k:Nat,pG (gP id nm) (aT T)=k∧(aT T)[k]? =some (id,nm,j):=by
 have hmem:((id,nm,j):iT)∈aT T:=(jU hT.sorted).2 ⟨x,hx,bP hn⟩
 cases hf:(aT T).findIdx? (gP id nm)with
 |none=>
  rw[List.findIdx?_eq_none_iff]at hf
  have:=hf _ hmem
  simp[gP]at this
 |some k=>
  refine⟨k,by simp[pG,hf],?_⟩
  rw[List.findIdx?_eq_some_iff_getElem]at hf
  obtain⟨hk,hp,_⟩:=hf
  have h1:(aT T)[k]? =some (aT T)[k]:=List.getElem?_eq_getElem hk
  obtain⟨e,he⟩:∃e,e=(aT T)[k]:=⟨_,rfl⟩
  have hm:=List.getElem_mem hk
  rw[←he]at h1 hp hm
  simp only[gP,decide_eq_true_eq]at hp
  obtain⟨y,hy,hm2⟩:=(jU hT.sorted).1 hm
  rw[hp.1,hx]at hy
  cases hy
  have h3:=bf l8 (hT.each id x hx).sorted hm2
  rw[hp.2,hn]at h3
  rw[h1]
  congr 1
  exact Prod.ext hp.1 (Prod.ext hp.2 (Option.some.inj h3).symm)
theorem zP {S:Nat→Prop} {w:World} {a:Option Addr} {n:Nat} {ls:List Nm} (h:aK S w a n (ls.map strOf)) (k:Nat) (hk:k<n):∃b off nm,a=some ⟨b,off,none⟩∧S b∧b<w.heap.size∧ls[k]? =some nm∧nm.length≤maxLen∧w.cell? ⟨b,off+k,none⟩=some (.string (strOf nm)):=by
 obtain⟨b,off,s,e,hS,hb,hs,hsz,hc⟩:=h.cell k hk
 rw[List.getElem?_map]at hs
 cases hq:ls[k]? with
 |none=>rw[hq]at hs;cases hs
 |some nm=>
  rw[hq]at hs
  have:strOf nm=s:=by simpa using hs
  subst this
  rw[fV]at hsz
  exact⟨b,off,nm,e,hS,hb,rfl,hsz,hc⟩
theorem K3 {ls:List Nm} (h:ls.any (fun x=> !dw x)=true):bS ls=12:=by unfold bS;rw[if_pos h]
theorem Nw {ls:List Nm} (h:ls.any (fun x=> !dw x)=false):bS ls=if 8<ls.length then 3 else 0:=by unfold bS;rw[if_neg (by rw[h];decide)]
set_option maxHeartbeats 1000000 in
theorem qO {S:Nat→Prop} (a:Option Addr) (n c:Nat) (ls:List Nm) (w:World) (hS:aK S w a n (ls.map strOf)):
  Calls Tryz.prog 66 #[.slice a n c] w fun e w'=>e= .returned (.int .i64 (bS ls))∧Below w.heap.size w w':=by
 have hln:ls.length=n:=by have:=hS.length;simpa using this
 have hnm:=hS.row.small
 unfold maxLen at hnm
 have HS:=Lib.hid (fun w1 (hb:Below w.heap.size w w1)=>hS.below hb (Nat.le_refl _))
 have HL:=Lib.hid hln
 clear hS hln
 go_enter Tryz.func66,Tryz.ntmps66
 go_wp2
 go_loopw [3] (fun i wr=>∃k:Nat,k≤n∧i= .int .i64 k∧(ls.take k).any (fun x=> !dw x)=false∧Below w.heap.size w wr) (fun i _=>n-(intOf i).toNat)
 case atStart=>exact⟨0,by omega,rfl,by simp,Below.refl _ _⟩
 case round=>
  obtain⟨k,hk,rfl,hany,hB⟩:=hrel
  have HA:=Lib.hid hany
  have HB:=Lib.hid hB
  clear hany hB
  by_cases hlt:k<n
  ·obtain⟨b,off,nm,rfl,_,hbw,hx,hsz,hc⟩:=zP (HS.out wr HB.out) k hlt
   have HX:=Lib.hid hx
   have HG:=Lib.hid (KZ (strOf nm) wr (by rw[fV];exact hsz))
   have e0:(strOf nm).data.toList=nm:=by simp[strOf]
   rw[e0]at HG
   clear hx hsz e0
   have i0:(0:Int)≤k:=by omega
   have i1:(k:Int)<n:=by omega
   cases hp:dw nm with
   |true=>
    rw[hp]at HG
    have HP:Hid ((fun x:Nm=> !dw x) nm=false):=by show(!dw nm)=false;rw[hp];rfl
    clear hp
    go_wp2_with fail
    (with_reducible refine HG.out.mono ?_)
    rintro e w1 ⟨rfl,hb1⟩
    go_wp2_with fail
    go_roundw
    case rel=>exact⟨k+1,by omega,by go_num,any_take_succ HA.out HX.out HP.out,HB.out.trans (hb1.mono HB.out.size)⟩
    case measure=>simp[intOf];omega
   |false=>
    rw[hp]at HG
    have HP:Hid (ls.any (fun x=> !dw x)=true):=by
     show ls.any _=true
     rw[List.any_eq_true]
     exact⟨nm,List.mem_of_getElem? HX.out,by rw[hp];rfl⟩
    clear hp
    go_wp2_with fail
    (with_reducible refine HG.out.mono ?_)
    rintro e w1 ⟨rfl,hb1⟩
    go_wp2_with fail
    go_ret
    exact⟨gV (K3 HP.out).symm,HB.out.trans (hb1.mono HB.out.size)⟩
  ·have HF:Hid (bS ls=if 8<n then 3 else 0):=by
    have:=HA.out
    rw[List.take_of_length_le (by have:=HL.out;omega)]at this
    have h2:=Nw this
    rw[HL.out]at h2
    exact h2
   by_cases h8:8<n
   ·have hd:decide ((8:Int)<(n:Int))=true:=by simp only[decide_eq_true_eq];omega
    rw[if_pos h8]at HF
    clear h8
    go_wp2
    go_ret
    exact⟨gV HF.out.symm,HB.out⟩
   ·have hd:decide ((8:Int)<(n:Int))=false:=by simp only[decide_eq_false_iff_not];omega
    rw[if_neg h8]at HF
    clear h8
    go_wp2
    go_ret
    exact⟨gV HF.out.symm,HB.out⟩
section
variable {F:Nat→Prop} {r:Nat} {T:aG}
set_option maxHeartbeats 2000000 in
theorem tO {S:Nat→Prop} (a:Option Addr) (n c:Nat) (ls:List Nm) (w:World) (h:iq F w r T) (hT:dX T) (hE:(aT T).length≤1000000) (hS:aK S w a n (ls.map strOf)):
  Calls Tryz.prog 77 #[ptr r, .slice a n c] w fun e w'=>e= .returned (.tuple #[.int .i64 (aH T 0 ls).1, .int .i64 (aH T 0 ls).2])∧Below w.heap.size w w':=by
 have hln:ls.length=n:=by have:=hS.length;simpa using this
 have hnm:=hS.row.small
 unfold maxLen at hnm
 have HS:=Lib.hid (fun w1 (hb:Below w.heap.size w w1)=>hS.below hb (Nat.le_refl _))
 have HH:=Lib.hid (fun w1 (hb:Below w.heap.size w w1)=>h.below hb (Nat.le_refl _))
 have hr0:=h.low r h.own
 have HT:=Lib.hid hT
 have HL:=Lib.hid hln
 have HE:=Lib.hid hE
 clear hS hln h hT hE
 go_enter Tryz.func77,Tryz.ntmps77
 go_wp2
 go_loopw [6,7] (fun s i wr=>∃(k:Nat) (id:Int),k≤n∧i= .int .i64 k∧s= .int .i64 id∧(aj id T).isSome=true∧aH T id (ls.drop k)=aH T 0 ls∧Below w.heap.size w wr) (fun _ i _=>n-(intOf i).toNat)
 case atStart=>exact⟨0,0,by omega,rfl,rfl,eF HT.out,by simp,Below.refl _ _⟩
 case round=>
  obtain⟨k,id,hk,rfl,rfl,hid,hlk,hB⟩:=hrel
  obtain⟨x,hx⟩:=Option.isSome_iff_exists.1 hid
  have mZ:=Lib.hid hlk
  have HX:=Lib.hid hx
  have HB:=Lib.hid hB
  have HSZ:=Lib.hid hB.size
  clear hlk hid hx hB
  by_cases hlt:k<n
  ·obtain⟨b,off,nm,rfl,_,hbw,hn,hsz,hc⟩:=zP (HS.out wr HB.out) k hlt
   have HN:=Lib.hid hn
   have yR:=Lib.hid (jA id wr (HH.out wr HB.out) HT.out.toyQ)
   have hnd:jf T id=jE id x:=by unfold jf;rw[HX.out]
   rw[hnd]at yR
   unfold jE at yR
   have i0:(0:Int)≤k:=by omega
   have i1:(k:Int)<n:=by omega
   clear hn hnd hsz
   by_cases hk2:x.kind=2
   ·rw[hk2]at yR
    cases hj:aj nm x.names with
    |none=>
     have hfin:=Lib.hid (zC HX.out hk2 HN.out hj)
     have Ir:=Lib.hid (fun w1 (hb:Below w.heap.size w w1)=>jG id nm w1 (HH.out w1 hb) HE.out)
     rw[sj HT.out.sorted HX.out hj]at Ir
     clear hj hk2
     go_wp2_with fail
     (with_reducible refine yR.out.mono ?_)
     rintro e w1 ⟨rfl,hb1⟩
     have HB1:=Lib.hid (HB.out.trans (hb1.mono HB.out.size))
     have hcb:b<w1.heap.size:=Nat.lt_of_lt_of_le hbw hb1.size
     have hc1:w1.cell? ⟨b,off+k,none⟩=some (.string (strOf nm)):=by rw[hb1.cell (p:=⟨b,off+k,none⟩) hbw];exact hc
     have hr1:r<w1.heap.size:=Nat.lt_of_lt_of_le hr0 HB1.out.size
     clear hb1
     go_wp2_with fail
     (with_reducible refine(Ir.out _ (HB1.out.trans ((wall w1 _).mono HB1.out.size))).mono ?_)
     rintro e w2 ⟨rfl,rfl⟩
     go_wp2_with fail
     go_ret2
     exact⟨p9 (by rw[←mZ.out,hfin.out]),HB1.out.trans ((wall w1 _).mono HB1.out.size)⟩
    |some j=>
     have hfin:=Lib.hid (zA HX.out hk2 HN.out hj)
     have HJ:=Lib.hid ((HT.out.leads id x HX.out _ (bP hj)).1)
     have Ir:=Lib.hid (fun w1 (hb:Below w.heap.size w w1)=>jG id nm w1 (HH.out w1 hb) HE.out)
     obtain⟨m,hm1,hm2⟩:=qh HT.out.toyQ HX.out hj
     rw[hm1]at Ir
     have D5:=Lib.hid hm2
     clear hj hk2 hm1 hm2
     go_wp2_with fail
     (with_reducible refine yR.out.mono ?_)
     rintro e w1 ⟨rfl,hb1⟩
     have HB1:=Lib.hid (HB.out.trans (hb1.mono HB.out.size))
     have hcb:b<w1.heap.size:=Nat.lt_of_lt_of_le hbw hb1.size
     have hc1:w1.cell? ⟨b,off+k,none⟩=some (.string (strOf nm)):=by rw[hb1.cell (p:=⟨b,off+k,none⟩) hbw];exact hc
     have hr1:r<w1.heap.size:=Nat.lt_of_lt_of_le hr0 HB1.out.size
     obtain⟨aE,cE,q2,-,hrow,-⟩:=(HH.out w1 HB1.out).ent
     obtain⟨b2,off2,rfl,-,hb2,hml,hc2⟩:=hrow.wide iN rfl D5.out (by omega)
     have q3:w1.cell? ⟨b2,off2+m*3+2,none⟩=some (.int .i64 j):=hc2 2 (by omega)
     have m0:(0:Int)≤m:=by omega
     have m1:(m:Int)<(aT T).length:=by omega
     have m2:¬(m:Int)<0:=by omega
     clear hb1 hrow hc2
     go_wp2_with fail
     (with_reducible refine(Ir.out _ (HB1.out.trans ((wall w1 _).mono HB1.out.size))).mono ?_)
     rintro e w2 ⟨rfl,rfl⟩
     go_wp2_with fail
     go_roundw
     case rel=>exact⟨k+1,j,by omega,by go_num,rfl,HJ.out,by rw[←hfin.out];exact mZ.out,HB1.out.trans ((wall w1 _).mono HB1.out.size)⟩
     case measure=>simp[intOf];omega
   ·have e1:(x.kind==2)=false:=by simpa using hk2
    have e2:(x.kind !=2)=true:=by simpa using hk2
    have hfin:=Lib.hid (zB HX.out hk2 HN.out)
    clear hk2
    go_wp2_with fail
    (with_reducible refine yR.out.mono ?_)
    rintro e w1 ⟨rfl,hb1⟩
    have HB1:=Lib.hid (HB.out.trans (hb1.mono HB.out.size))
    clear hb1
    go_wp2_with fail
    go_ret2
    exact⟨p9 (by rw[←mZ.out,hfin.out]),HB1.out.trans ((wall w1 _).mono HB1.out.size)⟩
  ·go_wp2
   go_ret2
   exact⟨p9 (by rw[←mZ.out,List.drop_of_length_le (by have:=HL.out;omega)];rfl),HB.out⟩
end
theorem Ee:∀a b:List UInt8,Op.bytesLess a b=bytesBefore a b
 |[],[]=>rfl
 |[],_::_=>rfl
 |_::_,[]=>rfl
 |x::r,y::s=>by
  unfold Op.bytesLess bytesBefore
  rw[Ee r s]
def kE (d:Int) (nm:Nm) (e:iT):Bool:=decide (e.1<d)||(decide (e.1=d)&&bytesBefore e.2.1 nm)
def pI (E:List iT) (d:Int) (nm:Nm) (id:Int):List iT:=E.takeWhile (kE d nm)++(d,nm,id)::E.dropWhile (kE d nm)
theorem qP {α:Type} {p:α→Bool}:∀{l:List α} {k:Nat},(l.take k).all p=true→(∀x,l[k]? =some x→p x=false)→k≤l.length→l.takeWhile p=l.take k∧l.dropWhile p=l.drop k
 |[],k,_,_,hk=>by simp
 |y::r,0,_,h,_=>by
  have:=h y (by simp)
  simp[this]
 |y::r,k+1,ha,h,hk=>by
  simp only[List.take_succ_cons,List.all_cons,Bool.and_eq_true]at ha
  obtain⟨h1,h2⟩:=qP (l:=r) (k:=k) ha.2 (fun x hx=>h x (by simpa using hx)) (by simpa using hk)
  simp[ha.1,h1,h2]
section
variable {κ α:Type} {lt:κ→κ→Bool}
theorem Ef (L:nT lt) (x:κ×α):∀(l:List (κ×α)),(∀p∈l,p.1≠x.1)→iE lt x l=l.takeWhile (fun y=>lt y.1 x.1)++x::l.dropWhile (fun y=>lt y.1 x.1)∨¬aS lt l
 |[],_=> .inl (by simp[iE])
 |y::r,hn=>by
  have hy:y.1≠x.1:=hn y (by simp)
  have no:∀a b,lt a b=true→lt b a=false:=fun a b h=>by
   cases h3:lt b a with
   |false=>rfl
   |true=>have:=L.trans _ _ _ h h3;rw[L.YF]at this;cases this
  by_cases hs:aS lt (y::r)
  ·left
   rcases L.tot y.1 x.1 hy with h|h
   ·have h2:=no _ _ h
    unfold iE
    rcases Ef L x r (fun p hp=>hn p (by simp[hp]))with h3|h3
    ·rw[if_neg (by rw[h2];decide),List.takeWhile_cons,List.dropWhile_cons,if_pos h,if_pos h,h3]
     rfl
    ·exact absurd (List.pairwise_cons.1 hs).2 h3
   ·have h2:=no _ _ h
    unfold iE
    rw[if_pos h,List.takeWhile_cons,List.dropWhile_cons,if_neg (by rw[h2];decide),if_neg (by rw[h2];decide)]
    rfl
  ·exact .inr hs
end
theorem K4 {d id:Int} {nm:Nm} {A B:List iT} (h:∀e∈A,kE d nm e=true):pI (A++B) d nm id=A++pI B d nm id:=by
 unfold pI
 rw[List.takeWhile_append_of_pos h,List.dropWhile_append_of_pos h,List.append_assoc]
theorem Iu {α:Type} {p:α→Bool}:∀{B:List α},(∀e∈B,p e=false)→B.takeWhile p=[]∧B.dropWhile p=B
 |[],_=>⟨rfl,rfl⟩
 |e::r,h=>by
  have:=h e (by simp)
  simp[this]
theorem CP {d id:Int} {nm:Nm} {B:List iT} (h:∀e∈B,kE d nm e=false):∀A:List iT,pI (A++B) d nm id=pI A d nm id++B
 |[]=>by
  obtain⟨h1,h2⟩:=Iu h
  unfold pI
  rw[List.nil_append,h1,h2]
  simp
 |e::r=>by
  have ih:=CP (id:=id) h r
  unfold pI at ih⊢
  rw[List.cons_append,List.takeWhile_cons,List.dropWhile_cons,List.takeWhile_cons,List.dropWhile_cons]
  cases he:kE d nm e with
  |true=>
   simp only[if_true,List.cons_append,ih]
  |false=>simp
theorem eY (y:Int×bW) (r:aG):aT (y::r)=jQ y++aT r:=by unfold aT;rw[List.flatMap_cons]
theorem ze {T:aG} {e:iT} (h:e∈aT T):∃q∈T,q.1=e.1∧e.2∈q.2.names:=by
 unfold aT at h
 obtain⟨q,hq,he⟩:=List.mem_flatMap.1 h
 obtain⟨y,hy,rfl⟩:=List.mem_map.1 he
 exact⟨q,hq,rfl,hy⟩
theorem nP (k:Int) (f:bW→bW) (y:Int×bW) (r:aG):bH k f (y::r)=(if y.1=k then(y.1,f y.2)else y)::bH k f r:=rfl
theorem CQ {k:Int} {f:bW→bW} {r:aG} (h:∀q∈r,q.1≠k):bH k f r=r:=by
 unfold bH
 conv=>rhs;rw[←List.map_id r]
 apply List.map_congr_left
 intro q hq
 rw[if_neg (h q hq)]
 rfl
theorem zQ {d id:Int} {nm:Nm}:∀{T:aG} {x:bW},aS g_ T→aj d T=some x→aS bytesBefore x.names→aj nm x.names=none→pI (aT T) d nm id=aT (setName T d nm id)
 |[],x,_,hx,_,_=>by cases hx
 |y::r,x,hs,hx,hns,hn=>by
  obtain⟨h1,h2⟩:=List.pairwise_cons.1 hs
  rw[fZ]at hx
  unfold setName
  rw[nP,eY,eY]
  by_cases hy:y.1=d
  ·rw[if_pos hy]at hx
   cases hx
   rw[if_pos hy,CQ (fun q hq=>by have:=h1 q hq;simp at this;omega)]
   rw[CP (fun e he=>by
    obtain⟨q,hq,hk,_⟩:=ze he
    have:=h1 q hq
    simp only[decide_eq_true_eq]at this
    unfold kE
    have a1:¬e.1<d:=by omega
    have a2:¬e.1=d:=by omega
    simp[a1,a2])]
   congr 1
   unfold pI jQ
   have hp:(kE d nm)∘(fun e:Nm×Int=>((y.1,e.1,e.2):iT))=fun e=>bytesBefore e.1 nm:=by
    funext e
    simp[kE,hy]
   rw[List.takeWhile_map,List.dropWhile_map,hp]
   have hk:∀p∈y.2.names,p.1≠nm:=iX.1 hn
   unfold dF
   rw[jM hn]
   rcases Ef l8 (nm,id) y.2.names hk with h3|h3
   ·rw[h3,List.map_append,List.map_cons,hy]
   ·exact absurd hns h3
  ·rw[if_neg hy]at hx
   rw[if_neg hy]
   have hlt:=h1 _ (bP hx)
   simp only[decide_eq_true_eq]at hlt
   rw[K4 (fun e he=>by
    obtain⟨z,hz,rfl⟩:=List.mem_map.1 he
    unfold kE
    simp[hlt])]
   rw[zQ h2 hx hns hn]
   rfl
theorem uN {α:Type} {p:α→Bool}:∀{l:List α} {k:Nat} {x:α},l[k]? =some x→p x=true→l.Pairwise (fun a b=>¬(p a=true∧p b=true))→l.take k++l.drop (k+1)=l.filter fun a=> !p a
 |[],k,x,h,_,_=>by simp at h
 |y::r,0,x,h,hp,hw=>by
  simp only[List.getElem?_cons_zero,Option.some.injEq]at h
  subst h
  have h1:=(List.pairwise_cons.1 hw).1
  simp only[List.take_zero,List.nil_append,Nat.zero_add,List.drop_succ_cons,List.drop_zero,List.filter_cons,hp,Bool.not_true]
  rw[if_neg (by decide)]
  symm
  rw[List.filter_eq_self]
  intro a ha
  cases hpa:p a with
  |false=>rfl
  |true=>exact absurd ⟨hp,hpa⟩ (h1 a ha)
 |y::r,k+1,x,h,hp,hw=>by
  obtain⟨h1,h2⟩:=List.pairwise_cons.1 hw
  have hx:r[k]? =some x:=by simpa using h
  have hy:p y=false:=by
   cases hpy:p y with
   |false=>rfl
   |true=>exact absurd ⟨hpy,hp⟩ (h1 x (List.mem_of_getElem? hx))
  rw[List.take_succ_cons,List.drop_succ_cons,List.cons_append,uN hx hp h2,List.filter_cons,hy]
  rfl
theorem zR {T:aG} (hs:aS g_ T) (hn:∀q∈T,aS bytesBefore q.2.names) (d:Int) (nm:Nm):(aT T).Pairwise fun a b=>¬(gP d nm a=true∧gP d nm b=true):=by
 unfold aT
 rw[List.pairwise_flatMap]
 refine⟨fun q hq=> ?_,?_⟩
 ·unfold jQ
  rw[List.pairwise_map]
  refine List.Pairwise.imp (fun{a b} hab=> ?_) (hn q hq)
  simp only[gP,decide_eq_true_eq]
  rintro ⟨⟨_,h1⟩,_,h2⟩
  rw[h1,h2,l8.YF]at hab
  cases hab
 ·refine List.Pairwise.imp (fun{a b} hab=> ?_) hs
  intro x hx y hy
  obtain⟨x',_,rfl⟩:=List.mem_map.1 hx
  obtain⟨y',_,rfl⟩:=List.mem_map.1 hy
  simp only[gP,decide_eq_true_eq]
  rintro ⟨⟨h1,_⟩,h2,_⟩
  simp only[decide_eq_true_eq]at hab
  omega
theorem zS (d:Int) (nm:Nm):∀T:aG,(aT T).filter (fun e=> !gP d nm e)=aT (aF T d nm)
 |[]=>rfl
 |y::r=>by
  have ih:=zS d nm r
  unfold aF at ih⊢
  rw[nP,eY,eY,List.filter_append,ih]
  congr 1
  unfold jQ
  rw[List.filter_map]
  by_cases hy:y.1=d
  ·rw[if_pos hy]
   unfold bR
   simp only
   congr 1
   apply List.filter_congr
   intro e _
   simp[gP,hy]
  ·rw[if_neg hy]
   congr 1
   rw[List.filter_eq_self]
   intro e _
   simp[gP,hy]
theorem CS {x:Int×bW} (hx:x.2.names=[]):∀T:aG,aT (iE g_ x T)=aT T
 |[]=>by
  unfold iE
  rw[eY];unfold jQ;rw[hx];rfl
 |y::r=>by
  unfold iE
  split
  ·rw[eY];unfold jQ;rw[hx];rfl
  ·rw[eY,eY,CS hx r]
theorem zT {T:aG} {f kind:Int} (hf:aj f T=none):aT (dF g_ f (bZ kind) T)=aT T:=by
 unfold dF
 rw[jM hf]
 exact CS (x:=(f,bZ kind)) rfl T
theorem Fy {id:Int}:∀{T:aG},(∀q∈T,q.1=id→q.2.names=[])→aT (bR id T)=aT T
 |[],_=>rfl
 |y::r,h=>by
  have ih:=Fy (T:=r) (id:=id) fun q hq=>h q (by simp[hq])
  unfold bR at ih⊢
  rw[List.filter_cons]
  by_cases hy:y.1=id
  ·have:=h y (by simp) hy
   simp only[hy,decide_true,Bool.not_true]
   rw[if_neg (by decide),ih,eY]
   unfold jQ
   rw[this];rfl
  ·simp only[hy,decide_false,Bool.not_false,if_true]
   rw[eY,eY,ih]
theorem lD {id:Int} {f:bW→bW} (hf:∀x,(f x).names=x.names):∀T:aG,aT (bH id f T)=aT T
 |[]=>rfl
 |y::r=>by
  rw[nP,eY,eY,lD hf r]
  congr 1
  by_cases hy:y.1=id
  ·rw[if_pos hy];unfold jQ;simp only;rw[hf]
  ·rw[if_neg hy]
theorem zU (id:Int):∀T:aG,aT (fJ T id)=(aT T).filter fun e=> !decide (e.2.2=id)
 |[]=>rfl
 |y::r=>by
  have:fJ (y::r) id=(y.1,gH id y.2)::fJ r id:=rfl
  rw[this,eY,eY,List.filter_append,zU id r]
  congr 1
  unfold jQ gH
  simp only
  rw[List.filter_map]
  rfl
theorem Ny {T:aG} (hs:aS g_ T) (id:Int):T.Pairwise fun a b=>¬(oL id a=true∧oL id b=true):=by
 refine List.Pairwise.imp (fun{a b} hab=> ?_) hs
 simp only[oL,decide_eq_true_eq]
 simp only[decide_eq_true_eq]at hab
 omega
theorem Ue {T:aG} (hs:aS g_ T) {k:Nat} {q:Int×bW} (hq:T[k]? =some q):T.take k++T.drop (k+1)=bR q.1 T:=by
 rw[uN (p:=oL q.1) hq (by simp[oL]) (Ny hs q.1)]
 rfl
theorem ny {f:bW→bW}:∀{T:aG} {k:Nat} {q:Int×bW},aS g_ T→T[k]? =some q→T.set k (q.1,f q.2)=bH q.1 f T
 |[],k,q,_,h=>by simp at h
 |y::r,0,q,hs,h=>by
  simp only[List.getElem?_cons_zero,Option.some.injEq]at h
  subst h
  obtain⟨h1,_⟩:=List.pairwise_cons.1 hs
  rw[nP,if_pos rfl,CQ (fun p hp=>by have:=h1 p hp;simp at this;omega)]
  rfl
 |y::r,k+1,q,hs,h=>by
  obtain⟨h1,h2⟩:=List.pairwise_cons.1 hs
  have hx:r[k]? =some q:=by simpa using h
  have:=h1 q (List.mem_of_getElem? hx)
  simp only[decide_eq_true_eq]at this
  rw[nP,if_neg (by omega),←ny h2 hx]
  rfl
theorem uO {id:Int} {f:bW→bW} (hf:∀x,dI (id,f x)=dI (id,x)):∀T:aG,(bH id f T).flatMap dI=T.flatMap dI
 |[]=>rfl
 |y::r=>by
  rw[nP,List.flatMap_cons,List.flatMap_cons,uO hf r]
  congr 1
  by_cases hy:y.1=id
  ·rw[if_pos hy,hy,hf,←hy]
  ·rw[if_neg hy]
theorem nQ {id:Int} {f:bW→bW} (hf:∀x,(f x).b=x.b) (T:aG):(bH id f T).map (fun q=>q.2.b)=T.map fun q=>q.2.b:=by
 unfold bH
 rw[List.map_map]
 apply List.map_congr_left
 intro q _
 by_cases h:q.1=id<;>simp[h,hf]
theorem Fz (id:Int) (T:aG):(fJ T id).flatMap dI=T.flatMap dI:=by
 unfold fJ
 rw[List.flatMap_map]
 rfl
theorem Iw (id:Int) (T:aG):(fJ T id).map (fun q=>q.2.b)=T.map fun q=>q.2.b:=by
 unfold fJ
 rw[List.map_map]
 rfl
theorem data_set {f:bW→bW} {T:aG} {k:Nat} {q:Int×bW} (hs:aS g_ T) (hq:T[k]? =some q):(bH q.1 f T).map (fun q=>q.2.b)=(T.map fun q=>q.2.b).set k (f q.2).b:=by
 rw[←ny hs hq,List.map_set]
theorem Uf {T:aG} (hs:aS g_ T) {f:Int} (x:bW) (hf:aj f T=none):dF g_ f x T=T.takeWhile (fun q=>decide (q.1<f))++(f,x)::T.dropWhile fun q=>decide (q.1<f):=by
 unfold dF
 rw[jM hf]
 rcases Ef dU (f,x) T (iX.1 hf)with h|h
 ·exact h
 ·exact absurd hs h
theorem gQ {T:aG} (hT:dX T):(aT T).length≤4096:=by
 have h1:=Hz (fun e:iT=>e.2.2) 64 (T.map (·.1)) (aT T) (fun e he=>by
  obtain⟨x,hx,hm⟩:=(jU hT.sorted).1 he
  obtain⟨y,hy⟩:=Option.isSome_iff_exists.1 (hT.leads _ x hx e.2 hm).1
  exact List.mem_map.2 ⟨_,bP hy,rfl⟩) (fun j hj=>by
   have hcnt:(aT T).countP (fun e=>decide (e.2.2=j))=gy T j:=by
    unfold aT gy cn
    rw[List.countP_flatMap]
    congr 1
    apply List.map_congr_left
    intro q _
    unfold jQ
    simp only[Function.comp_apply,List.countP_map]
    rfl
   rw[hcnt]
   by_cases h0:j=0
   ·have:(aT T).countP (fun e=>decide (e.2.2=j))=0:=by
     rw[List.countP_eq_zero]
     intro e he
     obtain⟨x,hx,hm⟩:=(jU hT.sorted).1 he
     have:=(hT.leads _ x hx e.2 hm).2
     simp[h0,this]
    omega
   ·obtain⟨q,hq,rfl⟩:=List.mem_map.1 hj
    have hy:=bf dU hT.sorted hq
    have h2:=hT.counts _ _ hy h0
    have h3:=(hT.each _ _ hy).links
    omega)
 have:=hT.len
 rw[List.length_map]at h1
 omega
theorem yt {S S':Nat→Prop} (a:Option Addr) (n c:Nat) (ls:List Nm) (a':Option Addr) (n' c':Nat) (ls':List Nm) (w:World) (hS:aK S w a n (ls.map strOf)) (hS':aK S' w a' n' (ls'.map strOf)):
  Calls Tryz.prog 76 #[.slice a n c, .slice a' n' c'] w fun e w'=>e= .returned (.int .i64 (je ls ls'))∧Below w.heap.size w w':=by
 have H1:=Lib.hid (qO a n c ls w hS)
 have H2:=Lib.hid (fun w1 (hb:Below w.heap.size w w1)=>qO a' n' c' ls' w1 (hS'.below hb (Nat.le_refl _)))
 clear hS hS'
 unfold je
 by_cases h0:bS ls=0
 ·rw[h0]at H1
  rw[if_neg (by rw[h0];simp)]
  clear h0
  go_enter Tryz.func76,Tryz.ntmps76
  go_wp2_with fail
  (with_reducible refine H1.out.mono ?_)
  rintro e w1 ⟨rfl,hb1⟩
  have HB1:=Lib.hid hb1
  clear hb1
  go_wp2_with fail
  (with_reducible refine(H2.out w1 HB1.out).mono ?_)
  rintro e w2 ⟨rfl,hb2⟩
  go_wp2_with fail
  go_ret
  exact⟨rfl,HB1.out.trans (hb2.mono HB1.out.size)⟩
 ·rw[if_pos h0]
  have hne:(bS ls==0)=false:=by simpa using h0
  have hne2:(bS ls !=0)=true:=by simpa using h0
  clear h0
  go_enter Tryz.func76,Tryz.ntmps76
  go_wp2_with fail
  (with_reducible refine H1.out.mono ?_)
  rintro e w1 ⟨rfl,hb1⟩
  go_wp2_with fail
  go_ret
  exact⟨rfl,hb1⟩
section
variable {F:Nat→Prop} {r:Nat} {T:aG}
theorem tQ {S:Nat→Prop} (a:Option Addr) (n c:Nat) (ls:List Nm) (w:World) (h:iq F w r T) (hT:dX T) (hE:(aT T).length≤1000000) (hS:aK S w a n (ls.map strOf)):
  Calls Tryz.prog 72 #[ptr r, .slice a n c] w fun e w'=>e= .returned (.tuple #[.int .i64 (fE T ls).1, .int .i64 (fE T ls).2])∧Below w.heap.size w w':=by
 have H1:=Lib.hid (qO a n c ls w hS)
 have H2:=Lib.hid (fun w1 (hb:Below w.heap.size w w1)=>tO a n c ls w1 (h.below hb (Nat.le_refl _)) hT hE (hS.below hb (Nat.le_refl _)))
 clear hS h hT hE
 unfold fE
 by_cases h0:bS ls=0
 ·rw[h0]at H1
  rw[if_neg (by rw[h0];simp)]
  clear h0
  go_enter Tryz.func72,Tryz.ntmps72
  go_wp2_with fail
  (with_reducible refine H1.out.mono ?_)
  rintro e w1 ⟨rfl,hb1⟩
  have HB1:=Lib.hid hb1
  clear hb1
  go_wp2_with fail
  (with_reducible refine(H2.out w1 HB1.out).mono ?_)
  rintro e w2 ⟨rfl,hb2⟩
  go_wp2_with fail
  go_ret2
  exact⟨rfl,HB1.out.trans (hb2.mono HB1.out.size)⟩
 ·rw[if_pos h0]
  have hne:(bS ls==0)=false:=by simpa using h0
  have hne2:(bS ls !=0)=true:=by simpa using h0
  clear h0
  go_enter Tryz.func72,Tryz.ntmps72
  go_wp2_with fail
  (with_reducible refine H1.out.mono ?_)
  rintro e w1 ⟨rfl,hb1⟩
  go_wp2_with fail
  go_ret2
  exact⟨rfl,hb1⟩
def FB (T:aG) (id:Int):Int:=if dx T id=0 then pG (oL id) T else 0
set_option maxHeartbeats 1000000 in
theorem qj (id:Int) (w:World) (h:iq F w r T) (hT:yQ T):Calls Tryz.prog 82 #[ptr r, .int .i64 id] w fun e w'=>e= .returned (.tuple #[.int .i64 (FB T id), .int .i64 (dx T id)])∧w=w':=by
 have HR:=Lib.hid (tN id w h hT.len)
 have hr0:=h.low r h.own
 cases hx:aj id T with
 |none=>
  have e1:dx T id=20:=by unfold dx;rw[hx]
  have e2:FB T id=0:=by unfold FB;simp only[e1];rfl
  rw[vO hx]at HR
  rw[e1,e2]
  clear h hx hT e1 e2
  go_enter Tryz.func82,Tryz.ntmps82
  go_wp2_with fail
  (with_reducible refine HR.out.mono ?_)
  rintro e w1 ⟨rfl,rfl⟩
  go_wp2_with fail
  go_ret2
  exact⟨rfl,rfl⟩
 |some x=>
  obtain⟨k,hk,hq⟩:=jF hT.sorted hx
  rw[hk]at HR
  obtain⟨b,off,c,hc0,hF,hb,hkl,c0,c1,c2,c3,c4,c5⟩:=h.node hq
  have i0:(0:Int)≤k:=by omega
  have i1:(k:Int)<T.length:=by omega
  have i2:¬(k:Int)<0:=by omega
  simp only at c0 c1 c2 c3 c4 c5
  by_cases hk2:x.kind=2
  ·have e1:dx T id=22:=by unfold dx;rw[hx];exact if_pos hk2
   have e2:FB T id=0:=by unfold FB;simp only[e1];rfl
   rw[e1,e2]
   rw[hk2]at c1
   clear hk2 e1 e2 h hx hk hq hT
   go_enter Tryz.func82,Tryz.ntmps82
   go_wp2_with fail
   (with_reducible refine HR.out.mono ?_)
   rintro e w1 ⟨rfl,rfl⟩
   go_wp2_with fail
   go_ret2
   exact⟨rfl,rfl⟩
  ·have e1:dx T id=0:=by unfold dx;rw[hx];exact if_neg hk2
   have e2:FB T id=k:=by unfold FB;simp only[e1];exact hk
   rw[e1,e2]
   have e3:(x.kind==2)=false:=by simpa using hk2
   clear hk2 e1 e2 h hx hk hq hT
   go_enter Tryz.func82,Tryz.ntmps82
   go_wp2_with fail
   (with_reducible refine HR.out.mono ?_)
   rintro e w1 ⟨rfl,rfl⟩
   go_wp2_with fail
   go_ret2
   exact⟨rfl,rfl⟩
set_option maxHeartbeats 2000000 in
theorem lF {S:Nat→Prop} (a:Option Addr) (n c:Nat) (ls:List Nm) (w:World) (h:iq F w r T) (hT:dX T) (hE:(aT T).length≤1000000) (hS:aK S w a n (ls.map strOf)) (hc:n≤c) (kV:n≤1000000):
  Calls Tryz.prog 67 #[ptr r, .slice a n c] w fun e w'=>e= .returned (.tuple #[.int .i64 (aI T ls).1, .string (strOf (aI T ls).2.1), .int .i64 (aI T ls).2.2])∧Below w.heap.size w w':=by
 have hln:ls.length=n:=by have:=hS.length;simpa using this
 unfold aI
 by_cases h0:ls=[]
 ·rw[if_pos h0]
  have hn:n=0:=by rw[←hln,h0];rfl
  subst hn
  clear h hT hS hE
  go_enter Tryz.func67,Tryz.ntmps67
  go_wp2
  go_ret3
  exact⟨rfl,Below.refl _ _⟩
 ·rw[if_neg h0]
  obtain⟨j,rfl⟩:∃j,n=j+1:=⟨n-1,by
   have:n≠0:=fun e=>h0 (List.eq_nil_of_length_eq_zero (by omega))
   omega⟩
  obtain⟨b,off,nm,rfl,_,hbw,hx,hsz,hcn⟩:=zP hS j (by omega)
  have hdl:(ls.map strOf).take j=ls.dropLast.map strOf:=by
   rw[List.dropLast_eq_take,hln,List.map_take];rfl
  have hnm:ls.getLastD []=nm:=by
   rw[List.getLastD_eq_getLast?,List.getLast?_eq_getElem?,hln,show j+1-1=j from rfl,hx];rfl
  have hT1:=hS.take j (by omega)
  rw[hdl]at hT1
  have mZ:=Lib.hid (tO _ j c ls.dropLast w h hT hE hT1)
  have HH:=Lib.hid (fun w1 (hb:Below w.heap.size w w1) id=>jA id w1 (h.below hb (Nat.le_refl _)) hT.toyQ)
  have WX:=Lib.hid (fP hT ls.dropLast 0 (eF hT))
  have e1:IntKind.i64.wrap (((j+1:Nat):Int)-1)=(j:Int):=by rw[show(((j+1:Nat):Int)-1)=(j:Int)by omega];exact IntWalk.i64_in _ (by omega)
  have e1':IntKind.i64.wrap ((j:Int)+1-1)=(j:Int):=by rw[show((j:Int)+1-1)=(j:Int)by omega];exact IntWalk.i64_in _ (by omega)
  have i0:(0:Int)≤j:=by omega
  have i1:(j:Int)<((j+1:Nat):Int):=by omega
  have YL:(j:Int)<(j:Int)+1:=by omega
  have i2:(((j+1:Nat):Int)==0)=false:=by simp;omega
  have i2':((j:Int)+1==0)=false:=by simp;omega
  have hjc:j≤c:=by omega
  rw[hnm]
  clear h hT hE hS hx hsz hdl hnm hT1 hln h0
  obtain⟨⟨d,e0⟩,hq⟩:∃q,q=aH T 0 ls.dropLast:=⟨_,rfl⟩
  rw[←hq]at mZ WX
  rw[←hq]
  clear hq
  simp only at mZ WX
  simp only
  by_cases he:e0=0
  ·subst he
   obtain⟨x,hx⟩:=Option.isSome_iff_exists.1 (WX.out rfl)
   have hnd:jf T d=jE d x:=by unfold jf;rw[hx]
   have hkd:=bQ hx
   have WY:=Lib.hid (fun w1 hb=>HH.out w1 hb d)
   rw[hnd]at WY
   unfold jE at WY
   rw[if_neg (by simp),hkd]
   clear hnd hkd HH hx WX
   by_cases hk2:x.kind=2
   ·rw[if_pos hk2]
    rw[hk2]at WY
    clear hk2
    go_enter Tryz.func67,Tryz.ntmps67
    go_wp2_with fail
    (with_reducible refine mZ.out.mono ?_)
    rintro e w1 ⟨rfl,hb1⟩
    have HB1:=Lib.hid hb1
    clear hb1
    go_wp2_with fail
    (with_reducible refine(WY.out w1 HB1.out).mono ?_)
    rintro e w2 ⟨rfl,hb2⟩
    have HB2:=Lib.hid (HB1.out.trans (hb2.mono HB1.out.size))
    clear hb2
    have hs2:=HB2.out.size
    have hc2:w2.cell? ⟨b,off+j,none⟩=some (.string (strOf nm)):=by rw[HB2.out.cell (p:=⟨b,off+j,none⟩) hbw];exact hcn
    have hb2w:b<w2.heap.size:=by omega
    go_wp2_with fail
    go_quiet (fail)
    go_wp2_with fail
    go_ret3
    exact⟨rfl,HB2.out.trans ⟨rfl,rfl,rfl,by simp,fun x hx=>Below.heap_alloc _ _ _ (by omega)⟩⟩
   ·have e3:(x.kind==2)=false:=by simpa using hk2
    have e4:(x.kind !=2)=true:=by simpa using hk2
    rw[if_neg hk2]
    clear hk2
    go_enter Tryz.func67,Tryz.ntmps67
    go_wp2_with fail
    (with_reducible refine mZ.out.mono ?_)
    rintro e w1 ⟨rfl,hb1⟩
    have HB1:=Lib.hid hb1
    clear hb1
    go_wp2_with fail
    (with_reducible refine(WY.out w1 HB1.out).mono ?_)
    rintro e w2 ⟨rfl,hb2⟩
    have HB2:=Lib.hid (HB1.out.trans (hb2.mono HB1.out.size))
    clear hb2
    go_wp2_with fail
    go_ret3
    exact⟨rfl,HB2.out.trans ((wall w2 _).mono HB2.out.size)⟩
  ·rw[if_pos he]
   have hne:(e0==0)=false:=by simpa using he
   have hne2:(e0 !=0)=true:=by simpa using he
   clear he HH WX
   go_enter Tryz.func67,Tryz.ntmps67
   go_wp2_with fail
   (with_reducible refine mZ.out.mono ?_)
   rintro e w1 ⟨rfl,hb1⟩
   go_wp2_with fail
   go_ret3
   exact⟨rfl,hb1⟩
end
theorem dJ {w:World} {base g:Nat} {e:TypeId} {k:Nat} (hg:w.heap[g]? =some (.cells #[] e)) (hb:base≤g):w.ownsRow base e k (.slice (some ⟨g,0,none⟩) 0 0) 0 []:=by
 refine⟨by simp, .inr ⟨g,0,#[],rfl,hb,hg,Nat.le_refl _,Nat.zero_le _,by simp,by simp⟩⟩
theorem aC.vQ {w:World} {base:Nat} {e:TypeId} {k:Nat} {a:Option Addr} {m n c:Nat} {xs:List Value} (h:w.ownsRow base e k (.slice a m c) n xs) (hs:n*k≤maxLen):m=n∧n≤c∧Base a c∧aC (fun x=>base≤x∧x<w.heap.size) w a (n*k) xs:=by
 obtain⟨h1,h2⟩:=h
 rcases h2 with⟨h2,rfl⟩|⟨g,cap,cur,h2,hg,hcur,h3,h4,h5,h6⟩
 ·simp only[Value.slice.injEq]at h2
  obtain⟨rfl,rfl,rfl⟩:=h2
  have:xs=[]:=List.eq_nil_of_length_eq_zero (by omega)
  subst this
  rw[Nat.zero_mul]
  exact⟨rfl,Nat.le_refl _,Or.inl ⟨rfl,rfl⟩,aC.nil _ _ _⟩
 ·simp only[Value.slice.injEq]at h2
  obtain⟨rfl,rfl,rfl⟩:=h2
  have hgw:=(Array.getElem?_eq_some_iff.1 hcur).1
  refine⟨rfl,h3,Or.inr ⟨_,rfl⟩,h1,hs,fun h0=>⟨g,0,rfl,⟨hg,hgw⟩,hgw,fun i hi=> ?_⟩⟩
  simp only[World.cell?,hcur,Nat.zero_add]
  rw[←h6,List.getElem?_take,if_pos hi]
  simp
theorem mP {P:Program} {S:Nat→Prop} {w:World} (base:Nat) (t ty e:TypeId) (i:TypeInfo) (z:Value) (k bytes:Nat) (ht:P.underlying t=some (.slice e)) (hi:P.info? e=some i) (hz:i.zero=some z)
  (hsize:i.size=k) (hby:i.bytes=bytes) (hzs:z.cells.size=k) (hk:0<k) (v:Value) (n:Nat) (xs:List Value) (hown:w.ownsRow base e k v n xs)
  (A:Option Addr) (m c:Nat) (news:List Value) (hr:aC S w A (m*k) news) (h1:∀u∈news,u.oneCell'=true) (h63:n+m≤maxLen) (hbytes:(n+m)*bytes≤140737488355328) (hbase:base≤w.heap.size):
  ∃A' c' w',(Builtin.append_ #[t,t] ty #[v, .slice A m c]).run P w= .ok (.slice A' (n+m) c') w'∧w'.ownsRow base e k (.slice A' (n+m) c') (n+m) (xs++news)∧w.grownBy w' v.ownBlock∧
   ((Value.slice A' (n+m) c').ownBlock=v.ownBlock∨(Value.slice A' (n+m) c').ownBlock=some w.heap.size):=by
 rcases A with _|ad
 ·have hm:m=0:=by
   rcases Nat.eq_zero_or_pos m with h0|h0
   ·exact h0
   ·obtain⟨_,_,h,_⟩:=hr.at_ (Nat.mul_pos h0 hk)
    cases h
  subst hm
  have hn:news=[]:=List.eq_nil_of_length_eq_zero (by rw[hr.length];omega)
  subst hn
  obtain⟨A',c',rfl,_⟩:=jo hown
  refine⟨A',c',w,?_,by simpa using hown,⟨rfl,rfl,rfl,Nat.le_refl _,fun _ _ _=>rfl⟩,Or.inl rfl⟩
  rcases hown.2 with⟨h2,rfl⟩|⟨g,cap,cur,h2,_,_,hnc,_⟩
  ·simp only[Value.slice.injEq]at h2
   obtain⟨rfl,_,rfl⟩:=h2
   simp[Builtin.append_,run_underlying ht,sizeOf,typeInfo,hi,Builtin.lenOf,Builtin.firstCells]
  ·simp only[Value.slice.injEq]at h2
   obtain⟨rfl,_,rfl⟩:=h2
   simp[Builtin.append_,run_underlying ht,sizeOf,typeInfo,hi,Builtin.lenOf,Builtin.firstCells,hnc,storeCells]
 ·obtain⟨v',w',hr',h2,h3,h4,h5⟩:=run_append_own_at (P:=P) w base t ty e i z k bytes ht hi hz hsize hby hzs hk v n xs hown ad m c news hr.length hr.cells h1 h63 hbytes hbase
  obtain⟨A',c',rfl,_⟩:=jo h2
  exact⟨A',c',w',hr',h2,h3,h5⟩
theorem av {P:Program} {S:Nat→Prop} {ops:Array Oper} {o:Oper} {a:Act} {w:World} {K:Act→World→Prop} {Q:Exit→Act→World→Prop} {E:Prop} (hgd:o.guard=none) (s x:Operand) (t:TypeId)
  (ho:o.op= .call {callee:= .builtin .append,args:= #[s,x],argTypes:= #[t,t]})
  (base:Nat) (e:TypeId) (i:TypeInfo) (z:Value) (k bytes:Nat) (ht:P.underlying t=some (.slice e)) (hi:P.info? e=some i) (hz:i.zero=some z)
  (hsize:i.size=k) (hby:i.bytes=bytes) (hzs:z.cells.size=k) (hk:0<k) (v:Value) (n:Nat) (xs:List Value) (hs:a.eval s=v) (hown:w.ownsRow base e k v n xs)
  (A:Option Addr) (m c:Nat) (news:List Value) (hx:a.eval x= .slice A m c) (hr:aC S w A (m*k) news) (h1:∀u∈news,u.oneCell'=true) (h63:n+m≤maxLen) (hbytes:(n+m)*bytes≤140737488355328) (hbase:base≤w.heap.size)
  (h:∀A' c' w',w'.ownsRow base e k (.slice A' (n+m) c') (n+m) (xs++news)→Below base w w'→K (a.put o.dst (.slice A' (n+m) c')) w'):
  if Region.wanted o (yielded ops a.tmps)=true then Oper.wp P o a w K Q else E:=by
 have hw:Region.wanted o (yielded ops a.tmps)=true:=by simp[Region.wanted,hgd]
 rw[if_pos hw]
 obtain⟨A',c',w',hr,h2,h3,h4⟩:=mP (P:=P) base t o.type e i z k bytes ht hi hz hsize hby hzs hk v n xs hown A m c news hr h1 h63 hbytes hbase
 unfold Oper.wp execOp
 simp only[ho,resolve,invoke,builtin,Sem.run_bind,Sem.run_pure,Result.andThen_ok,List.map_toArray,List.map_cons,List.map_nil,hs,hx,hr]
 exact h A' c' w' h2 ⟨h3.os,h3.tape,h3.output,h3.size,fun b hb=>h3.block b (by omega) (fun e=>by have:=gB hown b e.symm;omega)⟩
theorem own_below {w w':World} {base:Nat} {e:TypeId} {k:Nat} {v:Value} {n:Nat} {xs:List Value} (h:w.ownsRow base e k v n xs) (hb:Below w.heap.size w w'):w'.ownsRow base e k v n xs:=by
 obtain⟨h1,h2⟩:=h
 refine⟨h1,?_⟩
 rcases h2 with h2|⟨g,cap,cur,h2,hg,hcur,h3⟩
 ·exact .inl h2
 ·exact .inr ⟨g,cap,cur,h2,hg,(hb.block g (Array.getElem?_eq_some_iff.1 hcur).1).trans hcur,h3⟩
end Go.Proofs.YtmabllemjkcobaaGreat
