/- The reference: right, look, Look, file. The reference's lists, plainly: what becomes of the nodes and of the entries. The reference: Look, place, file, rights. Rows whose elements have more than one cell: append. -/
import Derived.Test.YtohpcppeajijnaaGreatM18
import Derived.Test.YtohpcppeajijnaaGreatM17
namespace Go.Proofs.YtohpcppeajijnaaGreat
open Go.ChangeShapes Go.WideShapes Go.ChangeAt Go.RowKit
set_option linter.unusedVariables false
set_option linter.unusedSimpArgs false
theorem jO {T:aF} (hs:aI fT T) {e:jc}:e∈aV T↔∃x,aj e.1 T=some x∧e.2∈x.names:=by
 unfold aV
 rw[List.mem_flatMap]
 constructor
 ·rintro ⟨q,hq,he⟩
  obtain⟨y,hy,rfl⟩:=List.mem_map.1 he
  exact⟨q.2,aY dB hs hq,hy⟩
 ·rintro ⟨x,hx,he⟩
  exact⟨(e.1,x),bR hx,List.mem_map.2 ⟨e.2,he,rfl⟩⟩
theorem pU {T:aF} (hs:aI fT T) {id:Int} {x:bF} {nm:Nm} (hx:aj id T=some x) (hn:aj nm x.names=none):mX (fZ id nm) (aV T)= -1:=by
 refine lJ ?_
 rw[List.any_eq_false]
 intro e he h
 obtain⟨y,hy,hm⟩:=(jO hs).1 he
 simp only[fZ,decide_eq_true_eq]at h
 rw[h.1,hx]at hy
 cases hy
 exact gZ.1 hn _ hm h.2
theorem nH {T:aF} (hT:vw T) {id j:Int} {x:bF} {nm:Nm} (hx:aj id T=some x) (hn:aj nm x.names=some j):∃k:Nat,mX (fZ id nm) (aV T)=k∧(aV T)[k]? =some (id,nm,j):=by
 have hmem:((id,nm,j):jc)∈aV T:=(jO hT.sorted).2 ⟨x,hx,bR hn⟩
 cases hf:(aV T).findIdx? (fZ id nm)with
 |none=>
  rw[List.findIdx?_eq_none_iff]at hf
  have:=hf _ hmem
  simp[fZ]at this
 |some k=>
  refine⟨k,by simp[mX,hf],?_⟩
  rw[List.findIdx?_eq_some_iff_getElem]at hf
  obtain⟨hk,hp,_⟩:=hf
  have h1:(aV T)[k]? =some (aV T)[k]:=List.getElem?_eq_getElem hk
  obtain⟨e,he⟩:∃e,e=(aV T)[k]:=⟨_,rfl⟩
  have hm:=List.getElem_mem hk
  rw[←he]at h1 hp hm
  simp only[fZ,decide_eq_true_eq]at hp
  obtain⟨y,hy,hm2⟩:=(jO hT.sorted).1 hm
  rw[hp.1,hx]at hy
  cases hy
  have h3:=aY oU (hT.each id x hx).sorted hm2
  rw[hp.2,hn]at h3
  rw[h1]
  congr 1
  exact Prod.ext hp.1 (Prod.ext hp.2 (Option.some.inj h3).symm)
theorem wE {S:Nat→Prop} {w:World} {a:Option Addr} {n:Nat} {ls:List Nm} (h:aH S w a n (ls.map strOf)) (k:Nat) (hk:k<n):∃b off nm,a=some ⟨b,off,none⟩∧S b∧b<w.heap.size∧ls[k]? =some nm∧nm.length≤maxLen∧w.cell? ⟨b,off+k,none⟩=some (.string (strOf nm)):=by
 obtain⟨b,off,s,e,hS,hb,hs,hsz,hc⟩:=h.cell k hk
 rw[List.getElem?_map]at hs
 cases hq:ls[k]? with
 |none=>rw[hq]at hs;cases hs
 |some nm=>
  rw[hq]at hs
  have:strOf nm=s:=by simpa using hs
  subst this
  rw[fF]at hsz
  exact⟨b,off,nm,e,hS,hb,rfl,hsz,hc⟩
theorem FH {ls:List Nm} (h:ls.any (fun x=> !bZ x)=true):bM ls=12:=by unfold bM;rw[if_pos h]
theorem Iq {ls:List Nm} (h:ls.any (fun x=> !bZ x)=false):bM ls=if 8<ls.length then 3 else 0:=by unfold bM;rw[if_neg (by rw[h];decide)]
set_option maxHeartbeats 1000000 in
theorem oh {S:Nat→Prop} (a:Option Addr) (n c:Nat) (ls:List Nm) (w:World) (hS:aH S w a n (ls.map strOf)):
  Calls Tryz.prog 61 #[.slice a n c] w fun e w'=>e= .returned (.int .i64 (bM ls))∧Below w.heap.size w w':=by
 have hln:ls.length=n:=by have:=hS.length;simpa using this
 have hnm:=hS.row.small
 unfold maxLen at hnm
 have HS:=Lib.hid (fun w1 (hb:Below w.heap.size w w1)=>hS.below hb (Nat.le_refl _))
 have HL:=Lib.hid hln
 clear hS hln
 go_enter Tryz.func61,Tryz.ntmps61
 go_wp2
 go_loopw [3] (fun i wr=>∃k:Nat,k≤n∧i= .int .i64 k∧(ls.take k).any (fun x=> !bZ x)=false∧Below w.heap.size w wr) (fun i _=>n-(intOf i).toNat)
 case atStart=>exact⟨0,by omega,rfl,by simp,Below.refl _ _⟩
 case round=>
  obtain⟨k,hk,rfl,hany,hB⟩:=hrel
  have HA:=Lib.hid hany
  have HB:=Lib.hid hB
  clear hany hB
  by_cases hlt:k<n
  ·obtain⟨b,off,nm,rfl,_,hbw,hx,hsz,hc⟩:=wE (HS.out wr HB.out) k hlt
   have HX:=Lib.hid hx
   have HG:=Lib.hid (FE (strOf nm) wr (by rw[fF];exact hsz))
   have e0:(strOf nm).data.toList=nm:=by simp[strOf]
   rw[e0]at HG
   clear hx hsz e0
   have i0:(0:Int)≤k:=by omega
   have i1:(k:Int)<n:=by omega
   cases hp:bZ nm with
   |true=>
    rw[hp]at HG
    have HP:Hid ((fun x:Nm=> !bZ x) nm=false):=by show(!bZ nm)=false;rw[hp];rfl
    clear hp
    go_wp2_with fail
    (with_reducible refine HG.out.mono ?_)
    rintro e w1 ⟨rfl,hb1⟩
    go_wp2_with fail
    go_roundw
    case rel=>exact⟨k+1,by omega,by go_num,any_take_succ HA.out HX.out HP.out,HB.out.trans (hb1.mono HB.out.size)⟩
    case measure=>simp[intOf];omega
   |false=>
    rw[hp]at HG
    have HP:Hid (ls.any (fun x=> !bZ x)=true):=by
     show ls.any _=true
     rw[List.any_eq_true]
     exact⟨nm,List.mem_of_getElem? HX.out,by rw[hp];rfl⟩
    clear hp
    go_wp2_with fail
    (with_reducible refine HG.out.mono ?_)
    rintro e w1 ⟨rfl,hb1⟩
    go_wp2_with fail
    go_ret
    exact⟨fI (FH HP.out).symm,HB.out.trans (hb1.mono HB.out.size)⟩
  ·have HF:Hid (bM ls=if 8<n then 3 else 0):=by
    have:=HA.out
    rw[List.take_of_length_le (by have:=HL.out;omega)]at this
    have h2:=Iq this
    rw[HL.out]at h2
    exact h2
   by_cases h8:8<n
   ·have hd:decide ((8:Int)<(n:Int))=true:=by simp only[decide_eq_true_eq];omega
    rw[if_pos h8]at HF
    clear h8
    go_wp2
    go_ret
    exact⟨fI HF.out.symm,HB.out⟩
   ·have hd:decide ((8:Int)<(n:Int))=false:=by simp only[decide_eq_false_iff_not];omega
    rw[if_neg h8]at HF
    clear h8
    go_wp2
    go_ret
    exact⟨fI HF.out.symm,HB.out⟩
section
variable {F:Nat→Prop} {r:Nat} {T:aF}
set_option maxHeartbeats 2000000 in
theorem qA {S:Nat→Prop} (a:Option Addr) (n c:Nat) (ls:List Nm) (w:World) (h:gX F w r T) (hT:dG T) (hE:(aV T).length≤1000000) (hS:aH S w a n (ls.map strOf)):
  Calls Tryz.prog 72 #[ptr r, .slice a n c] w fun e w'=>e= .returned (.tuple #[.int .i64 (aC T 0 ls).1, .int .i64 (aC T 0 ls).2])∧Below w.heap.size w w':=by
 have hln:ls.length=n:=by have:=hS.length;simpa using this
 have hnm:=hS.row.small
 unfold maxLen at hnm
 have HS:=Lib.hid (fun w1 (hb:Below w.heap.size w w1)=>hS.below hb (Nat.le_refl _))
 have HH:=Lib.hid (fun w1 (hb:Below w.heap.size w w1)=>h.below hb (Nat.le_refl _))
 have hr0:=h.low r h.own
 have HT:=Lib.hid hT
 have HL:=Lib.hid hln
 have HE:=Lib.hid hE
 clear hS hln h hT hE
 go_enter Tryz.func72,Tryz.ntmps72
 go_wp2
 go_loopw [6,7] (fun s i wr=>∃(k:Nat) (id:Int),k≤n∧i= .int .i64 k∧s= .int .i64 id∧(aj id T).isSome=true∧aC T id (ls.drop k)=aC T 0 ls∧Below w.heap.size w wr) (fun _ i _=>n-(intOf i).toNat)
 case atStart=>exact⟨0,0,by omega,rfl,rfl,dU HT.out,by simp,Below.refl _ _⟩
 case round=>
  obtain⟨k,id,hk,rfl,rfl,hid,hlk,hB⟩:=hrel
  obtain⟨x,hx⟩:=Option.isSome_iff_exists.1 hid
  have kW:=Lib.hid hlk
  have HX:=Lib.hid hx
  have HB:=Lib.hid hB
  have YB:=Lib.hid hB.size
  clear hlk hid hx hB
  by_cases hlt:k<n
  ·obtain⟨b,off,nm,rfl,_,hbw,hn,hsz,hc⟩:=wE (HS.out wr HB.out) k hlt
   have HN:=Lib.hid hn
   have zT:=Lib.hid (iV id wr (HH.out wr HB.out) HT.out.tovw)
   have hnd:iI T id=jg id x:=by unfold iI;rw[HX.out]
   rw[hnd]at zT
   unfold jg at zT
   have i0:(0:Int)≤k:=by omega
   have i1:(k:Int)<n:=by omega
   clear hn hnd hsz
   by_cases hk2:x.kind=2
   ·rw[hk2]at zT
    cases hj:aj nm x.names with
    |none=>
     have hfin:=Lib.hid (vW HX.out hk2 HN.out hj)
     have FI:=Lib.hid (fun w1 (hb:Below w.heap.size w w1)=>iN id nm w1 (HH.out w1 hb) HE.out)
     rw[pU HT.out.sorted HX.out hj]at FI
     clear hj hk2
     go_wp2_with fail
     (with_reducible refine zT.out.mono ?_)
     rintro e w1 ⟨rfl,hb1⟩
     have HB1:=Lib.hid (HB.out.trans (hb1.mono HB.out.size))
     have hcb:b<w1.heap.size:=Nat.lt_of_lt_of_le hbw hb1.size
     have hc1:w1.cell? ⟨b,off+k,none⟩=some (.string (strOf nm)):=by rw[hb1.cell (p:=⟨b,off+k,none⟩) hbw];exact hc
     have hr1:r<w1.heap.size:=Nat.lt_of_lt_of_le hr0 HB1.out.size
     clear hb1
     go_wp2_with fail
     (with_reducible refine(FI.out _ (HB1.out.trans ((wall w1 _).mono HB1.out.size))).mono ?_)
     rintro e w2 ⟨rfl,rfl⟩
     go_wp2_with fail
     go_ret2
     exact⟨ny (by rw[←kW.out,hfin.out]),HB1.out.trans ((wall w1 _).mono HB1.out.size)⟩
    |some j=>
     have hfin:=Lib.hid (vU HX.out hk2 HN.out hj)
     have HJ:=Lib.hid ((HT.out.leads id x HX.out _ (bR hj)).1)
     have FI:=Lib.hid (fun w1 (hb:Below w.heap.size w w1)=>iN id nm w1 (HH.out w1 hb) HE.out)
     obtain⟨m,hm1,hm2⟩:=nH HT.out.tovw HX.out hj
     rw[hm1]at FI
     have zW:=Lib.hid hm2
     clear hj hk2 hm1 hm2
     go_wp2_with fail
     (with_reducible refine zT.out.mono ?_)
     rintro e w1 ⟨rfl,hb1⟩
     have HB1:=Lib.hid (HB.out.trans (hb1.mono HB.out.size))
     have hcb:b<w1.heap.size:=Nat.lt_of_lt_of_le hbw hb1.size
     have hc1:w1.cell? ⟨b,off+k,none⟩=some (.string (strOf nm)):=by rw[hb1.cell (p:=⟨b,off+k,none⟩) hbw];exact hc
     have hr1:r<w1.heap.size:=Nat.lt_of_lt_of_le hr0 HB1.out.size
     obtain⟨aE,cE,q2,-,hrow,-⟩:=(HH.out w1 HB1.out).ent
     obtain⟨b2,off2,rfl,-,hb2,hml,hc2⟩:=hrow.wide iD rfl zW.out (by omega)
     have q3:w1.cell? ⟨b2,off2+m*3+2,none⟩=some (.int .i64 j):=hc2 2 (by omega)
     have m0:(0:Int)≤m:=by omega
     have m1:(m:Int)<(aV T).length:=by omega
     have m2:¬(m:Int)<0:=by omega
     clear hb1 hrow hc2
     go_wp2_with fail
     (with_reducible refine(FI.out _ (HB1.out.trans ((wall w1 _).mono HB1.out.size))).mono ?_)
     rintro e w2 ⟨rfl,rfl⟩
     go_wp2_with fail
     go_roundw
     case rel=>exact⟨k+1,j,by omega,by go_num,rfl,HJ.out,by rw[←hfin.out];exact kW.out,HB1.out.trans ((wall w1 _).mono HB1.out.size)⟩
     case measure=>simp[intOf];omega
   ·have e1:(x.kind==2)=false:=by simpa using hk2
    have e2:(x.kind !=2)=true:=by simpa using hk2
    have hfin:=Lib.hid (vV HX.out hk2 HN.out)
    clear hk2
    go_wp2_with fail
    (with_reducible refine zT.out.mono ?_)
    rintro e w1 ⟨rfl,hb1⟩
    have HB1:=Lib.hid (HB.out.trans (hb1.mono HB.out.size))
    clear hb1
    go_wp2_with fail
    go_ret2
    exact⟨ny (by rw[←kW.out,hfin.out]),HB1.out.trans ((wall w1 _).mono HB1.out.size)⟩
  ·go_wp2
   go_ret2
   exact⟨ny (by rw[←kW.out,List.drop_of_length_le (by have:=HL.out;omega)];rfl),HB.out⟩
end
theorem EC:∀a b:List UInt8,Op.bytesLess a b=bytesBefore a b
 |[],[]=>rfl
 |[],_::_=>rfl
 |_::_,[]=>rfl
 |x::r,y::s=>by
  unfold Op.bytesLess bytesBefore
  rw[EC r s]
def jF (d:Int) (nm:Nm) (e:jc):Bool:=decide (e.1<d)||(decide (e.1=d)&&bytesBefore e.2.1 nm)
def mY (E:List jc) (d:Int) (nm:Nm) (id:Int):List jc:=E.takeWhile (jF d nm)++(d,nm,id)::E.dropWhile (jF d nm)
theorem rA {α:Type} {p:α→Bool}:∀{l:List α} {k:Nat},(l.take k).all p=true→(∀x,l[k]? =some x→p x=false)→k≤l.length→l.takeWhile p=l.take k∧l.dropWhile p=l.drop k
 |[],k,_,_,hk=>by simp
 |y::r,0,_,h,_=>by
  have:=h y (by simp)
  simp[this]
 |y::r,k+1,ha,h,hk=>by
  simp only[List.take_succ_cons,List.all_cons,Bool.and_eq_true]at ha
  obtain⟨h1,h2⟩:=rA (l:=r) (k:=k) ha.2 (fun x hx=>h x (by simpa using hx)) (by simpa using hk)
  simp[ha.1,h1,h2]
section
variable {κ α:Type} {lt:κ→κ→Bool}
theorem Ag (L:lW lt) (x:κ×α):∀(l:List (κ×α)),(∀p∈l,p.1≠x.1)→gy lt x l=l.takeWhile (fun y=>lt y.1 x.1)++x::l.dropWhile (fun y=>lt y.1 x.1)∨¬aI lt l
 |[],_=> .inl (by simp[gy])
 |y::r,hn=>by
  have hy:y.1≠x.1:=hn y (by simp)
  have no:∀a b,lt a b=true→lt b a=false:=fun a b h=>by
   cases h3:lt b a with
   |false=>rfl
   |true=>have:=L.trans _ _ _ h h3;rw[L.RQ]at this;cases this
  by_cases hs:aI lt (y::r)
  ·left
   rcases L.tot y.1 x.1 hy with h|h
   ·have h2:=no _ _ h
    unfold gy
    rcases Ag L x r (fun p hp=>hn p (by simp[hp]))with h3|h3
    ·rw[if_neg (by rw[h2];decide),List.takeWhile_cons,List.dropWhile_cons,if_pos h,if_pos h,h3]
     rfl
    ·exact absurd (List.pairwise_cons.1 hs).2 h3
   ·have h2:=no _ _ h
    unfold gy
    rw[if_pos h,List.takeWhile_cons,List.dropWhile_cons,if_neg (by rw[h2];decide),if_neg (by rw[h2];decide)]
    rfl
  ·exact .inr hs
end
theorem FJ {d id:Int} {nm:Nm} {A B:List jc} (h:∀e∈A,jF d nm e=true):mY (A++B) d nm id=A++mY B d nm id:=by
 unfold mY
 rw[List.takeWhile_append_of_pos h,List.dropWhile_append_of_pos h,List.append_assoc]
theorem Di {α:Type} {p:α→Bool}:∀{B:List α},(∀e∈B,p e=false)→B.takeWhile p=[]∧B.dropWhile p=B
 |[],_=>⟨rfl,rfl⟩
 |e::r,h=>by
  have:=h e (by simp)
  simp[this]
theorem yV {d id:Int} {nm:Nm} {B:List jc} (h:∀e∈B,jF d nm e=false):∀A:List jc,mY (A++B) d nm id=mY A d nm id++B
 |[]=>by
  obtain⟨h1,h2⟩:=Di h
  unfold mY
  rw[List.nil_append,h1,h2]
  simp
 |e::r=>by
  have ih:=yV (id:=id) h r
  unfold mY at ih⊢
  rw[List.cons_append,List.takeWhile_cons,List.dropWhile_cons,List.takeWhile_cons,List.dropWhile_cons]
  cases he:jF d nm e with
  |true=>
   simp only[if_true,List.cons_append,ih]
  |false=>simp
theorem dN (y:Int×bF) (r:aF):aV (y::r)=jy y++aV r:=by unfold aV;rw[List.flatMap_cons]
theorem ED {T:aF} {e:jc} (h:e∈aV T):∃q∈T,q.1=e.1∧e.2∈q.2.names:=by
 unfold aV at h
 obtain⟨q,hq,he⟩:=List.mem_flatMap.1 h
 obtain⟨y,hy,rfl⟩:=List.mem_map.1 he
 exact⟨q,hq,rfl,hy⟩
theorem lS (k:Int) (f:bF→bF) (y:Int×bF) (r:aF):aX k f (y::r)=(if y.1=k then(y.1,f y.2)else y)::aX k f r:=rfl
theorem yX {k:Int} {f:bF→bF} {r:aF} (h:∀q∈r,q.1≠k):aX k f r=r:=by
 unfold aX
 conv=>rhs;rw[←List.map_id r]
 apply List.map_congr_left
 intro q hq
 rw[if_neg (h q hq)]
 rfl
theorem wF {d id:Int} {nm:Nm}:∀{T:aF} {x:bF},aI fT T→aj d T=some x→aI bytesBefore x.names→aj nm x.names=none→mY (aV T) d nm id=aV (setName T d nm id)
 |[],x,_,hx,_,_=>by cases hx
 |y::r,x,hs,hx,hns,hn=>by
  obtain⟨h1,h2⟩:=List.pairwise_cons.1 hs
  rw[eX]at hx
  unfold setName
  rw[lS,dN,dN]
  by_cases hy:y.1=d
  ·rw[if_pos hy]at hx
   cases hx
   rw[if_pos hy,yX (fun q hq=>by have:=h1 q hq;simp at this;omega)]
   rw[yV (fun e he=>by
    obtain⟨q,hq,hk,_⟩:=ED he
    have:=h1 q hq
    simp only[decide_eq_true_eq]at this
    unfold jF
    have a1:¬e.1<d:=by omega
    have a2:¬e.1=d:=by omega
    simp[a1,a2])]
   congr 1
   unfold mY jy
   have hp:(jF d nm)∘(fun e:Nm×Int=>((y.1,e.1,e.2):jc))=fun e=>bytesBefore e.1 nm:=by
    funext e
    simp[jF,hy]
   rw[List.takeWhile_map,List.dropWhile_map,hp]
   have hk:∀p∈y.2.names,p.1≠nm:=gZ.1 hn
   unfold bT
   rw[iT hn]
   rcases Ag oU (nm,id) y.2.names hk with h3|h3
   ·rw[h3,List.map_append,List.map_cons,hy]
   ·exact absurd hns h3
  ·rw[if_neg hy]at hx
   rw[if_neg hy]
   have hlt:=h1 _ (bR hx)
   simp only[decide_eq_true_eq]at hlt
   rw[FJ (fun e he=>by
    obtain⟨z,hz,rfl⟩:=List.mem_map.1 he
    unfold jF
    simp[hlt])]
   rw[wF h2 hx hns hn]
   rfl
theorem rC {α:Type} {p:α→Bool}:∀{l:List α} {k:Nat} {x:α},l[k]? =some x→p x=true→l.Pairwise (fun a b=>¬(p a=true∧p b=true))→l.take k++l.drop (k+1)=l.filter fun a=> !p a
 |[],k,x,h,_,_=>by simp at h
 |y::r,0,x,h,hp,hw=>by
  simp only[List.getElem?_cons_zero,Option.some.injEq]at h
  subst h
  have h1:=(List.pairwise_cons.1 hw).1
  simp only[List.take_zero,List.nil_append,Nat.zero_add,List.drop_succ_cons,List.drop_zero,List.filter_cons,hp,Bool.not_true]
  rw[if_neg (by decide)]
  symm
  rw[List.filter_eq_self]
  intro a ha
  cases hpa:p a with
  |false=>rfl
  |true=>exact absurd ⟨hp,hpa⟩ (h1 a ha)
 |y::r,k+1,x,h,hp,hw=>by
  obtain⟨h1,h2⟩:=List.pairwise_cons.1 hw
  have hx:r[k]? =some x:=by simpa using h
  have hy:p y=false:=by
   cases hpy:p y with
   |false=>rfl
   |true=>exact absurd ⟨hpy,hp⟩ (h1 x (List.mem_of_getElem? hx))
  rw[List.take_succ_cons,List.drop_succ_cons,List.cons_append,rC hx hp h2,List.filter_cons,hy]
  rfl
theorem Dj {T:aF} (hs:aI fT T) (hn:∀q∈T,aI bytesBefore q.2.names) (d:Int) (nm:Nm):(aV T).Pairwise fun a b=>¬(fZ d nm a=true∧fZ d nm b=true):=by
 unfold aV
 rw[List.pairwise_flatMap]
 refine⟨fun q hq=> ?_,?_⟩
 ·unfold jy
  rw[List.pairwise_map]
  refine List.Pairwise.imp (fun{a b} hab=> ?_) (hn q hq)
  simp only[fZ,decide_eq_true_eq]
  rintro ⟨⟨_,h1⟩,_,h2⟩
  rw[h1,h2,oU.RQ]at hab
  cases hab
 ·refine List.Pairwise.imp (fun{a b} hab=> ?_) hs
  intro x hx y hy
  obtain⟨x',_,rfl⟩:=List.mem_map.1 hx
  obtain⟨y',_,rfl⟩:=List.mem_map.1 hy
  simp only[fZ,decide_eq_true_eq]
  rintro ⟨⟨h1,_⟩,h2,_⟩
  simp only[decide_eq_true_eq]at hab
  omega
theorem wG (d:Int) (nm:Nm):∀T:aF,(aV T).filter (fun e=> !fZ d nm e)=aV (aA T d nm)
 |[]=>rfl
 |y::r=>by
  have ih:=wG d nm r
  unfold aA at ih⊢
  rw[lS,dN,dN,List.filter_append,ih]
  congr 1
  unfold jy
  rw[List.filter_map]
  by_cases hy:y.1=d
  ·rw[if_pos hy]
   unfold bg
   simp only
   congr 1
   apply List.filter_congr
   intro e _
   simp[fZ,hy]
  ·rw[if_neg hy]
   congr 1
   rw[List.filter_eq_self]
   intro e _
   simp[fZ,hy]
theorem yY {x:Int×bF} (hx:x.2.names=[]):∀T:aF,aV (gy fT x T)=aV T
 |[]=>by
  unfold gy
  rw[dN];unfold jy;rw[hx];rfl
 |y::r=>by
  unfold gy
  split
  ·rw[dN];unfold jy;rw[hx];rfl
  ·rw[dN,dN,yY hx r]
theorem wH {T:aF} {f kind:Int} (hf:aj f T=none):aV (bT fT f (bE kind) T)=aV T:=by
 unfold bT
 rw[iT hf]
 exact yY (x:=(f,bE kind)) rfl T
theorem Bu {id:Int}:∀{T:aF},(∀q∈T,q.1=id→q.2.names=[])→aV (bg id T)=aV T
 |[],_=>rfl
 |y::r,h=>by
  have ih:=Bu (T:=r) (id:=id) fun q hq=>h q (by simp[hq])
  unfold bg at ih⊢
  rw[List.filter_cons]
  by_cases hy:y.1=id
  ·have:=h y (by simp) hy
   simp only[hy,decide_true,Bool.not_true]
   rw[if_neg (by decide),ih,dN]
   unfold jy
   rw[this];rfl
  ·simp only[hy,decide_false,Bool.not_false,if_true]
   rw[dN,dN,ih]
theorem jZ {id:Int} {f:bF→bF} (hf:∀x,(f x).names=x.names):∀T:aF,aV (aX id f T)=aV T
 |[]=>rfl
 |y::r=>by
  rw[lS,dN,dN,jZ hf r]
  congr 1
  by_cases hy:y.1=id
  ·rw[if_pos hy];unfold jy;simp only;rw[hf]
  ·rw[if_neg hy]
theorem wI (id:Int):∀T:aF,aV (eF T id)=(aV T).filter fun e=> !decide (e.2.2=id)
 |[]=>rfl
 |y::r=>by
  have:eF (y::r) id=(y.1,fB id y.2)::eF r id:=rfl
  rw[this,dN,dN,List.filter_append,wI id r]
  congr 1
  unfold jy fB
  simp only
  rw[List.filter_map]
  rfl
theorem Ir {T:aF} (hs:aI fT T) (id:Int):T.Pairwise fun a b=>¬(mF id a=true∧mF id b=true):=by
 refine List.Pairwise.imp (fun{a b} hab=> ?_) hs
 simp only[mF,decide_eq_true_eq]
 simp only[decide_eq_true_eq]at hab
 omega
theorem Ni {T:aF} (hs:aI fT T) {k:Nat} {q:Int×bF} (hq:T[k]? =some q):T.take k++T.drop (k+1)=bg q.1 T:=by
 rw[rC (p:=mF q.1) hq (by simp[mF]) (Ir hs q.1)]
 rfl
theorem kZ {f:bF→bF}:∀{T:aF} {k:Nat} {q:Int×bF},aI fT T→T[k]? =some q→T.set k (q.1,f q.2)=aX q.1 f T
 |[],k,q,_,h=>by simp at h
 |y::r,0,q,hs,h=>by
  simp only[List.getElem?_cons_zero,Option.some.injEq]at h
  subst h
  obtain⟨h1,_⟩:=List.pairwise_cons.1 hs
  rw[lS,if_pos rfl,yX (fun p hp=>by have:=h1 p hp;simp at this;omega)]
  rfl
 |y::r,k+1,q,hs,h=>by
  obtain⟨h1,h2⟩:=List.pairwise_cons.1 hs
  have hx:r[k]? =some q:=by simpa using h
  have:=h1 q (List.mem_of_getElem? hx)
  simp only[decide_eq_true_eq]at this
  rw[lS,if_neg (by omega),←kZ h2 hx]
  rfl
theorem rD {id:Int} {f:bF→bF} (hf:∀x,bX (id,f x)=bX (id,x)):∀T:aF,(aX id f T).flatMap bX=T.flatMap bX
 |[]=>rfl
 |y::r=>by
  rw[lS,List.flatMap_cons,List.flatMap_cons,rD hf r]
  congr 1
  by_cases hy:y.1=id
  ·rw[if_pos hy,hy,hf,←hy]
  ·rw[if_neg hy]
theorem lT {id:Int} {f:bF→bF} (hf:∀x,(f x).b=x.b) (T:aF):(aX id f T).map (fun q=>q.2.b)=T.map fun q=>q.2.b:=by
 unfold aX
 rw[List.map_map]
 apply List.map_congr_left
 intro q _
 by_cases h:q.1=id<;>simp[h,hf]
theorem Bv (id:Int) (T:aF):(eF T id).flatMap bX=T.flatMap bX:=by
 unfold eF
 rw[List.flatMap_map]
 rfl
theorem Dk (id:Int) (T:aF):(eF T id).map (fun q=>q.2.b)=T.map fun q=>q.2.b:=by
 unfold eF
 rw[List.map_map]
 rfl
theorem data_set {f:bF→bF} {T:aF} {k:Nat} {q:Int×bF} (hs:aI fT T) (hq:T[k]? =some q):(aX q.1 f T).map (fun q=>q.2.b)=(T.map fun q=>q.2.b).set k (f q.2).b:=by
 rw[←kZ hs hq,List.map_set]
theorem Nj {T:aF} (hs:aI fT T) {f:Int} (x:bF) (hf:aj f T=none):bT fT f x T=T.takeWhile (fun q=>decide (q.1<f))++(f,x)::T.dropWhile fun q=>decide (q.1<f):=by
 unfold bT
 rw[iT hf]
 rcases Ag dB (f,x) T (gZ.1 hf)with h|h
 ·exact h
 ·exact absurd hs h
theorem gQ {T:aF} (hT:dG T):(aV T).length≤4096:=by
 have h1:=CV (fun e:jc=>e.2.2) 64 (T.map (·.1)) (aV T) (fun e he=>by
  obtain⟨x,hx,hm⟩:=(jO hT.sorted).1 he
  obtain⟨y,hy⟩:=Option.isSome_iff_exists.1 (hT.leads _ x hx e.2 hm).1
  exact List.mem_map.2 ⟨_,bR hy,rfl⟩) (fun j hj=>by
   have hcnt:(aV T).countP (fun e=>decide (e.2.2=j))=fq T j:=by
    unfold aV fq cn
    rw[List.countP_flatMap]
    congr 1
    apply List.map_congr_left
    intro q _
    unfold jy
    simp only[Function.comp_apply,List.countP_map]
    rfl
   rw[hcnt]
   by_cases h0:j=0
   ·have:(aV T).countP (fun e=>decide (e.2.2=j))=0:=by
     rw[List.countP_eq_zero]
     intro e he
     obtain⟨x,hx,hm⟩:=(jO hT.sorted).1 he
     have:=(hT.leads _ x hx e.2 hm).2
     simp[h0,this]
    omega
   ·obtain⟨q,hq,rfl⟩:=List.mem_map.1 hj
    have hy:=aY dB hT.sorted hq
    have h2:=hT.counts _ _ hy h0
    have h3:=(hT.each _ _ hy).links
    omega)
 have:=hT.len
 rw[List.length_map]at h1
 omega
theorem uN {S S':Nat→Prop} (a:Option Addr) (n c:Nat) (ls:List Nm) (a':Option Addr) (n' c':Nat) (ls':List Nm) (w:World) (hS:aH S w a n (ls.map strOf)) (hS':aH S' w a' n' (ls'.map strOf)):
  Calls Tryz.prog 71 #[.slice a n c, .slice a' n' c'] w fun e w'=>e= .returned (.int .i64 (iw ls ls'))∧Below w.heap.size w w':=by
 have H1:=Lib.hid (oh a n c ls w hS)
 have H2:=Lib.hid (fun w1 (hb:Below w.heap.size w w1)=>oh a' n' c' ls' w1 (hS'.below hb (Nat.le_refl _)))
 clear hS hS'
 unfold iw
 by_cases h0:bM ls=0
 ·rw[h0]at H1
  rw[if_neg (by rw[h0];simp)]
  clear h0
  go_enter Tryz.func71,Tryz.ntmps71
  go_wp2_with fail
  (with_reducible refine H1.out.mono ?_)
  rintro e w1 ⟨rfl,hb1⟩
  have HB1:=Lib.hid hb1
  clear hb1
  go_wp2_with fail
  (with_reducible refine(H2.out w1 HB1.out).mono ?_)
  rintro e w2 ⟨rfl,hb2⟩
  go_wp2_with fail
  go_ret
  exact⟨rfl,HB1.out.trans (hb2.mono HB1.out.size)⟩
 ·rw[if_pos h0]
  have hne:(bM ls==0)=false:=by simpa using h0
  have hne2:(bM ls !=0)=true:=by simpa using h0
  clear h0
  go_enter Tryz.func71,Tryz.ntmps71
  go_wp2_with fail
  (with_reducible refine H1.out.mono ?_)
  rintro e w1 ⟨rfl,hb1⟩
  go_wp2_with fail
  go_ret
  exact⟨rfl,hb1⟩
section
variable {F:Nat→Prop} {r:Nat} {T:aF}
theorem qB {S:Nat→Prop} (a:Option Addr) (n c:Nat) (ls:List Nm) (w:World) (h:gX F w r T) (hT:dG T) (hE:(aV T).length≤1000000) (hS:aH S w a n (ls.map strOf)):
  Calls Tryz.prog 67 #[ptr r, .slice a n c] w fun e w'=>e= .returned (.tuple #[.int .i64 (eO T ls).1, .int .i64 (eO T ls).2])∧Below w.heap.size w w':=by
 have H1:=Lib.hid (oh a n c ls w hS)
 have H2:=Lib.hid (fun w1 (hb:Below w.heap.size w w1)=>qA a n c ls w1 (h.below hb (Nat.le_refl _)) hT hE (hS.below hb (Nat.le_refl _)))
 clear hS h hT hE
 unfold eO
 by_cases h0:bM ls=0
 ·rw[h0]at H1
  rw[if_neg (by rw[h0];simp)]
  clear h0
  go_enter Tryz.func67,Tryz.ntmps67
  go_wp2_with fail
  (with_reducible refine H1.out.mono ?_)
  rintro e w1 ⟨rfl,hb1⟩
  have HB1:=Lib.hid hb1
  clear hb1
  go_wp2_with fail
  (with_reducible refine(H2.out w1 HB1.out).mono ?_)
  rintro e w2 ⟨rfl,hb2⟩
  go_wp2_with fail
  go_ret2
  exact⟨rfl,HB1.out.trans (hb2.mono HB1.out.size)⟩
 ·rw[if_pos h0]
  have hne:(bM ls==0)=false:=by simpa using h0
  have hne2:(bM ls !=0)=true:=by simpa using h0
  clear h0
  go_enter Tryz.func67,Tryz.ntmps67
  go_wp2_with fail
  (with_reducible refine H1.out.mono ?_)
  rintro e w1 ⟨rfl,hb1⟩
  go_wp2_with fail
  go_ret2
  exact⟨rfl,hb1⟩
def Bw (T:aF) (id:Int):Int:=if bL T id=0 then mX (mF id) T else 0
set_option maxHeartbeats 1000000 in
theorem nI (id:Int) (w:World) (h:gX F w r T) (hT:vw T):Calls Tryz.prog 78 #[ptr r, .int .i64 id] w fun e w'=>e= .returned (.tuple #[.int .i64 (Bw T id), .int .i64 (bL T id)])∧w=w':=by
 have HR:=Lib.hid (qz id w h hT.len)
 have hr0:=h.low r h.own
 cases hx:aj id T with
 |none=>
  have e1:bL T id=20:=by unfold bL;rw[hx]
  have e2:Bw T id=0:=by unfold Bw;simp only[e1];rfl
  rw[sD hx]at HR
  rw[e1,e2]
  clear h hx hT e1 e2
  go_enter Tryz.func78,Tryz.ntmps78
  go_wp2_with fail
  (with_reducible refine HR.out.mono ?_)
  rintro e w1 ⟨rfl,rfl⟩
  go_wp2_with fail
  go_ret2
  exact⟨rfl,rfl⟩
 |some x=>
  obtain⟨k,hk,hq⟩:=iM hT.sorted hx
  rw[hk]at HR
  obtain⟨b,off,c,hc0,hF,hb,hkl,c0,c1,c2,c3,c4,c5⟩:=h.node hq
  have i0:(0:Int)≤k:=by omega
  have i1:(k:Int)<T.length:=by omega
  have i2:¬(k:Int)<0:=by omega
  simp only at c0 c1 c2 c3 c4 c5
  by_cases hk2:x.kind=2
  ·have e1:bL T id=22:=by unfold bL;rw[hx];exact if_pos hk2
   have e2:Bw T id=0:=by unfold Bw;simp only[e1];rfl
   rw[e1,e2]
   rw[hk2]at c1
   clear hk2 e1 e2 h hx hk hq hT
   go_enter Tryz.func78,Tryz.ntmps78
   go_wp2_with fail
   (with_reducible refine HR.out.mono ?_)
   rintro e w1 ⟨rfl,rfl⟩
   go_wp2_with fail
   go_ret2
   exact⟨rfl,rfl⟩
  ·have e1:bL T id=0:=by unfold bL;rw[hx];exact if_neg hk2
   have e2:Bw T id=k:=by unfold Bw;simp only[e1];exact hk
   rw[e1,e2]
   have e3:(x.kind==2)=false:=by simpa using hk2
   clear hk2 e1 e2 h hx hk hq hT
   go_enter Tryz.func78,Tryz.ntmps78
   go_wp2_with fail
   (with_reducible refine HR.out.mono ?_)
   rintro e w1 ⟨rfl,rfl⟩
   go_wp2_with fail
   go_ret2
   exact⟨rfl,rfl⟩
set_option maxHeartbeats 2000000 in
theorem j3 {S:Nat→Prop} (a:Option Addr) (n c:Nat) (ls:List Nm) (w:World) (h:gX F w r T) (hT:dG T) (hE:(aV T).length≤1000000) (hS:aH S w a n (ls.map strOf)) (hc:n≤c) (jS:n≤1000000):
  Calls Tryz.prog 62 #[ptr r, .slice a n c] w fun e w'=>e= .returned (.tuple #[.int .i64 (aB T ls).1, .string (strOf (aB T ls).2.1), .int .i64 (aB T ls).2.2])∧Below w.heap.size w w':=by
 have hln:ls.length=n:=by have:=hS.length;simpa using this
 unfold aB
 by_cases h0:ls=[]
 ·rw[if_pos h0]
  have hn:n=0:=by rw[←hln,h0];rfl
  subst hn
  clear h hT hS hE
  go_enter Tryz.func62,Tryz.ntmps62
  go_wp2
  go_ret3
  exact⟨rfl,Below.refl _ _⟩
 ·rw[if_neg h0]
  obtain⟨j,rfl⟩:∃j,n=j+1:=⟨n-1,by
   have:n≠0:=fun e=>h0 (List.eq_nil_of_length_eq_zero (by omega))
   omega⟩
  obtain⟨b,off,nm,rfl,_,hbw,hx,hsz,hcn⟩:=wE hS j (by omega)
  have hdl:(ls.map strOf).take j=ls.dropLast.map strOf:=by
   rw[List.dropLast_eq_take,hln,List.map_take];rfl
  have hnm:ls.getLastD []=nm:=by
   rw[List.getLastD_eq_getLast?,List.getLast?_eq_getElem?,hln,show j+1-1=j from rfl,hx];rfl
  have hT1:=hS.take j (by omega)
  rw[hdl]at hT1
  have kW:=Lib.hid (qA _ j c ls.dropLast w h hT hE hT1)
  have HH:=Lib.hid (fun w1 (hb:Below w.heap.size w w1) id=>iV id w1 (h.below hb (Nat.le_refl _)) hT.tovw)
  have PY:=Lib.hid (fA hT ls.dropLast 0 (dU hT))
  have e1:IntKind.i64.wrap (((j+1:Nat):Int)-1)=(j:Int):=by rw[show(((j+1:Nat):Int)-1)=(j:Int)by omega];exact IntWalk.i64_in _ (by omega)
  have YC:IntKind.i64.wrap ((j:Int)+1-1)=(j:Int):=by rw[show((j:Int)+1-1)=(j:Int)by omega];exact IntWalk.i64_in _ (by omega)
  have i0:(0:Int)≤j:=by omega
  have i1:(j:Int)<((j+1:Nat):Int):=by omega
  have Sd:(j:Int)<(j:Int)+1:=by omega
  have i2:(((j+1:Nat):Int)==0)=false:=by simp;omega
  have YD:((j:Int)+1==0)=false:=by simp;omega
  have hjc:j≤c:=by omega
  rw[hnm]
  clear h hT hE hS hx hsz hdl hnm hT1 hln h0
  obtain⟨⟨d,e0⟩,hq⟩:∃q,q=aC T 0 ls.dropLast:=⟨_,rfl⟩
  rw[←hq]at kW PY
  rw[←hq]
  clear hq
  simp only at kW PY
  simp only
  by_cases he:e0=0
  ·subst he
   obtain⟨x,hx⟩:=Option.isSome_iff_exists.1 (PY.out rfl)
   have hnd:iI T d=jg d x:=by unfold iI;rw[hx]
   have hkd:=bI hx
   have PZ:=Lib.hid (fun w1 hb=>HH.out w1 hb d)
   rw[hnd]at PZ
   unfold jg at PZ
   rw[if_neg (by simp),hkd]
   clear hnd hkd HH hx PY
   by_cases hk2:x.kind=2
   ·rw[if_pos hk2]
    rw[hk2]at PZ
    clear hk2
    go_enter Tryz.func62,Tryz.ntmps62
    go_wp2_with fail
    (with_reducible refine kW.out.mono ?_)
    rintro e w1 ⟨rfl,hb1⟩
    have HB1:=Lib.hid hb1
    clear hb1
    go_wp2_with fail
    (with_reducible refine(PZ.out w1 HB1.out).mono ?_)
    rintro e w2 ⟨rfl,hb2⟩
    have HB2:=Lib.hid (HB1.out.trans (hb2.mono HB1.out.size))
    clear hb2
    have hs2:=HB2.out.size
    have hc2:w2.cell? ⟨b,off+j,none⟩=some (.string (strOf nm)):=by rw[HB2.out.cell (p:=⟨b,off+j,none⟩) hbw];exact hcn
    have WU:b<w2.heap.size:=by omega
    go_wp2_with fail
    go_quiet (fail)
    go_wp2_with fail
    go_ret3
    exact⟨rfl,HB2.out.trans ⟨rfl,rfl,rfl,by simp,fun x hx=>Below.heap_alloc _ _ _ (by omega)⟩⟩
   ·have e3:(x.kind==2)=false:=by simpa using hk2
    have e4:(x.kind !=2)=true:=by simpa using hk2
    rw[if_neg hk2]
    clear hk2
    go_enter Tryz.func62,Tryz.ntmps62
    go_wp2_with fail
    (with_reducible refine kW.out.mono ?_)
    rintro e w1 ⟨rfl,hb1⟩
    have HB1:=Lib.hid hb1
    clear hb1
    go_wp2_with fail
    (with_reducible refine(PZ.out w1 HB1.out).mono ?_)
    rintro e w2 ⟨rfl,hb2⟩
    have HB2:=Lib.hid (HB1.out.trans (hb2.mono HB1.out.size))
    clear hb2
    go_wp2_with fail
    go_ret3
    exact⟨rfl,HB2.out.trans ((wall w2 _).mono HB2.out.size)⟩
  ·rw[if_pos he]
   have hne:(e0==0)=false:=by simpa using he
   have hne2:(e0 !=0)=true:=by simpa using he
   clear he HH PY
   go_enter Tryz.func62,Tryz.ntmps62
   go_wp2_with fail
   (with_reducible refine kW.out.mono ?_)
   rintro e w1 ⟨rfl,hb1⟩
   go_wp2_with fail
   go_ret3
   exact⟨rfl,hb1⟩
end
theorem dH {w:World} {base g:Nat} {e:TypeId} {k:Nat} (hg:w.heap[g]? =some (.cells #[] e)) (hb:base≤g):w.ownsRow base e k (.slice (some ⟨g,0,none⟩) 0 0) 0 []:=by
 refine⟨by simp, .inr ⟨g,0,#[],rfl,hb,hg,Nat.le_refl _,Nat.zero_le _,by simp,by simp⟩⟩
theorem av.sG {w:World} {base:Nat} {e:TypeId} {k:Nat} {a:Option Addr} {m n c:Nat} {xs:List Value} (h:w.ownsRow base e k (.slice a m c) n xs) (hs:n*k≤maxLen):m=n∧n≤c∧Base a c∧av (fun x=>base≤x∧x<w.heap.size) w a (n*k) xs:=by
 obtain⟨h1,h2⟩:=h
 rcases h2 with⟨h2,rfl⟩|⟨g,cap,cur,h2,hg,hcur,h3,h4,h5,h6⟩
 ·simp only[Value.slice.injEq]at h2
  obtain⟨rfl,rfl,rfl⟩:=h2
  have:xs=[]:=List.eq_nil_of_length_eq_zero (by omega)
  subst this
  rw[Nat.zero_mul]
  exact⟨rfl,Nat.le_refl _,Or.inl ⟨rfl,rfl⟩,av.nil _ _ _⟩
 ·simp only[Value.slice.injEq]at h2
  obtain⟨rfl,rfl,rfl⟩:=h2
  have hgw:=(Array.getElem?_eq_some_iff.1 hcur).1
  refine⟨rfl,h3,Or.inr ⟨_,rfl⟩,h1,hs,fun h0=>⟨g,0,rfl,⟨hg,hgw⟩,hgw,fun i hi=> ?_⟩⟩
  simp only[World.cell?,hcur,Nat.zero_add]
  rw[←h6,List.getElem?_take,if_pos hi]
  simp
theorem kQ {P:Program} {S:Nat→Prop} {w:World} (base:Nat) (t ty e:TypeId) (i:TypeInfo) (z:Value) (k bytes:Nat) (ht:P.underlying t=some (.slice e)) (hi:P.info? e=some i) (hz:i.zero=some z)
  (hsize:i.size=k) (hby:i.bytes=bytes) (hzs:z.cells.size=k) (hk:0<k) (v:Value) (n:Nat) (xs:List Value) (hown:w.ownsRow base e k v n xs)
  (A:Option Addr) (m c:Nat) (news:List Value) (hr:av S w A (m*k) news) (h1:∀u∈news,u.oneCell'=true) (h63:n+m≤maxLen) (hbytes:(n+m)*bytes≤140737488355328) (hbase:base≤w.heap.size):
  ∃A' c' w',(Builtin.append_ #[t,t] ty #[v, .slice A m c]).run P w= .ok (.slice A' (n+m) c') w'∧w'.ownsRow base e k (.slice A' (n+m) c') (n+m) (xs++news)∧w.grownBy w' v.ownBlock∧
   ((Value.slice A' (n+m) c').ownBlock=v.ownBlock∨(Value.slice A' (n+m) c').ownBlock=some w.heap.size):=by
 rcases A with _|ad
 ·have hm:m=0:=by
   rcases Nat.eq_zero_or_pos m with h0|h0
   ·exact h0
   ·obtain⟨_,_,h,_⟩:=hr.at_ (Nat.mul_pos h0 hk)
    cases h
  subst hm
  have hn:news=[]:=List.eq_nil_of_length_eq_zero (by rw[hr.length];omega)
  subst hn
  obtain⟨A',c',rfl,_⟩:=kJ hown
  refine⟨A',c',w,?_,by simpa using hown,⟨rfl,rfl,rfl,Nat.le_refl _,fun _ _ _=>rfl⟩,Or.inl rfl⟩
  rcases hown.2 with⟨h2,rfl⟩|⟨g,cap,cur,h2,_,_,hnc,_⟩
  ·simp only[Value.slice.injEq]at h2
   obtain⟨rfl,_,rfl⟩:=h2
   simp[Builtin.append_,run_underlying ht,sizeOf,typeInfo,hi,Builtin.lenOf,Builtin.firstCells]
  ·simp only[Value.slice.injEq]at h2
   obtain⟨rfl,_,rfl⟩:=h2
   simp[Builtin.append_,run_underlying ht,sizeOf,typeInfo,hi,Builtin.lenOf,Builtin.firstCells,hnc,storeCells]
 ·obtain⟨v',w',hr',h2,h3,h4,h5⟩:=run_append_own_at (P:=P) w base t ty e i z k bytes ht hi hz hsize hby hzs hk v n xs hown ad m c news hr.length hr.cells h1 h63 hbytes hbase
  obtain⟨A',c',rfl,_⟩:=kJ h2
  exact⟨A',c',w',hr',h2,h3,h5⟩
theorem ak {P:Program} {S:Nat→Prop} {ops:Array Oper} {o:Oper} {a:Act} {w:World} {K:Act→World→Prop} {Q:Exit→Act→World→Prop} {E:Prop} (hgd:o.guard=none) (s x:Operand) (t:TypeId)
  (ho:o.op= .call {callee:= .builtin .append,args:= #[s,x],argTypes:= #[t,t]})
  (base:Nat) (e:TypeId) (i:TypeInfo) (z:Value) (k bytes:Nat) (ht:P.underlying t=some (.slice e)) (hi:P.info? e=some i) (hz:i.zero=some z)
  (hsize:i.size=k) (hby:i.bytes=bytes) (hzs:z.cells.size=k) (hk:0<k) (v:Value) (n:Nat) (xs:List Value) (hs:a.eval s=v) (hown:w.ownsRow base e k v n xs)
  (A:Option Addr) (m c:Nat) (news:List Value) (hx:a.eval x= .slice A m c) (hr:av S w A (m*k) news) (h1:∀u∈news,u.oneCell'=true) (h63:n+m≤maxLen) (hbytes:(n+m)*bytes≤140737488355328) (hbase:base≤w.heap.size)
  (h:∀A' c' w',w'.ownsRow base e k (.slice A' (n+m) c') (n+m) (xs++news)→Below base w w'→K (a.put o.dst (.slice A' (n+m) c')) w'):
  if Region.wanted o (yielded ops a.tmps)=true then Oper.wp P o a w K Q else E:=by
 have hw:Region.wanted o (yielded ops a.tmps)=true:=by simp[Region.wanted,hgd]
 rw[if_pos hw]
 obtain⟨A',c',w',hr,h2,h3,h4⟩:=kQ (P:=P) base t o.type e i z k bytes ht hi hz hsize hby hzs hk v n xs hown A m c news hr h1 h63 hbytes hbase
 unfold Oper.wp execOp
 simp only[ho,resolve,invoke,builtin,Sem.run_bind,Sem.run_pure,Result.andThen_ok,List.map_toArray,List.map_cons,List.map_nil,hs,hx,hr]
 exact h A' c' w' h2 ⟨h3.os,h3.tape,h3.output,h3.size,fun b hb=>h3.block b (by omega) (fun e=>by have:=iA hown b e.symm;omega)⟩
theorem own_below {w w':World} {base:Nat} {e:TypeId} {k:Nat} {v:Value} {n:Nat} {xs:List Value} (h:w.ownsRow base e k v n xs) (hb:Below w.heap.size w w'):w'.ownsRow base e k v n xs:=by
 obtain⟨h1,h2⟩:=h
 refine⟨h1,?_⟩
 rcases h2 with h2|⟨g,cap,cur,h2,hg,hcur,h3⟩
 ·exact .inl h2
 ·exact .inr ⟨g,cap,cur,h2,hg,(hb.block g (Array.getElem?_eq_some_iff.1 hcur).1).trans hcur,h3⟩
end Go.Proofs.YtohpcppeajijnaaGreat
