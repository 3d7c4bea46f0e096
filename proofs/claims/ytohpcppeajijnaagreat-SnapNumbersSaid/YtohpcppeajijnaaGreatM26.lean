/- The reference: Node, entry. What chapter 7's reference says: Good, Within. The reference: right, look, Look, file. The reference's lists, plainly: what becomes of the nodes and of the entries. -/
import Derived.Test.YtohpcppeajijnaaGreatM25
import Derived.Test.YtohpcppeajijnaaGreatM19
import Derived.Test.YtohpcppeajijnaaGreatM16
namespace Go.Proofs.YtohpcppeajijnaaGreat
open Go.ChangeShapes Go.WideShapes Go.ChangeAt Go.RowKit
set_option linter.unusedVariables false
set_option linter.unusedSimpArgs false
theorem rH {T:aI} {id:Int} (h:aF id T=none):mI (lQ id) T= -1:=by
 refine kQ ?_
 rw[List.any_eq_false]
 intro q hq
 have:=iZ.1 h q hq
 simpa[lQ]using this
theorem jw {T:aI} (hs:aJ gL T) {id:Int} {x:bf} (h:aF id T=some x):∃k:Nat,mI (lQ id) T=k∧T[k]? =some (id,x):=by
 cases hf:T.findIdx? (lQ id)with
 |none=>
  rw[List.findIdx?_eq_none_iff]at hf
  have:=hf _ (eD h)
  simp[lQ]at this
 |some k=>
  refine⟨k,by simp[mI,hf],?_⟩
  rw[List.findIdx?_eq_some_iff_getElem]at hf
  obtain⟨hk,hp,_⟩:=hf
  have h1:T[k]? =some T[k]:=List.getElem?_eq_getElem hk
  have h2:T[k].1=id:=by simpa[lQ]using hp
  have h3:=bL dD hs (List.getElem_mem hk)
  rw[h2,h]at h3
  rw[h1]
  congr 1
  exact Prod.ext h2 (Option.some.inj h3).symm
def fJ (d:Int) (n:Nm) (e:iw):Bool:=decide (e.1=d∧e.2.1=n)
section
variable {F:Nat→Prop} {r:Nat} {T:aI} {D:List (List UInt8)} {E:List iw}
theorem eX.node {w:World} (h:eX F w r T D E) {k:Nat} {q:Int×bf} (hq:T[k]? =some q):∃b off c,w.cell? ⟨r,0,none⟩=some (.slice (some ⟨b,off,none⟩) T.length c)∧Off F r b∧b<w.heap.size∧k<T.length∧w.cell? ⟨b,off+k*6,none⟩=some (.int .i64 q.1)∧w.cell? ⟨b,off+k*6+1,none⟩=some (.int .i64 q.2.kind)∧w.cell? ⟨b,off+k*6+2,none⟩=some (.int .i64 q.2.links)∧w.cell? ⟨b,off+k*6+3,none⟩=some (.int .i64 q.2.b.length)∧w.cell? ⟨b,off+k*6+4,none⟩=some (.int .u64 q.2.aS)∧w.cell? ⟨b,off+k*6+5,none⟩=some (.bool q.2.closed):=by
 obtain⟨aN,cN,aD,cD,aE,cE,h1,-,-,-,hN,-,-,-⟩:=h.head
 obtain⟨b,off,rfl,hF,hb,hi,hc⟩:=hN.wide dG rfl hq (by omega)
 exact⟨b,off,cN,by simp[World.cell?,h1],hF,hb,hi,hc 0 (by omega),hc 1 (by omega),hc 2 (by omega),hc 3 (by omega),hc 4 (by omega),hc 5 (by omega)⟩
theorem eX.data {w:World} (h:eX F w r T D E) {k:Nat} {d:List UInt8} (hq:D[k]? =some d):∃b off c a c',w.cell? ⟨r,1,none⟩=some (.slice (some ⟨b,off,none⟩) D.length c)∧Off F r b∧b<w.heap.size∧w.cell? ⟨b,off+k,none⟩=some (.slice a d.length c')∧qN d.length c'∧ak (Off F r) w a d.length (d.map bv):=by
 obtain⟨aN,cN,aD,cD,aE,cE,h1,-,-,-,-,hD,-,-⟩:=h.head
 obtain⟨vs,hv,hrow⟩:=hD
 have hk:k<D.length:=(List.getElem?_eq_some_iff.1 hq).1
 obtain⟨b,off,rfl,hF,hb,hc⟩:=hv.at_ (by omega)
 obtain⟨a,c',h3,h4,h5⟩:=hrow k d hq
 exact⟨b,off,cD,a,c',by simp[World.cell?,h1],hF,hb,by rw[hc k hk];exact h3,h4,h5⟩
theorem eX.ent {w:World} (h:eX F w r T D E):∃a c,w.cell? ⟨r,2,none⟩=some (.slice a E.length c)∧E.length≤c∧ak (Off F r) w a (E.length*3) (E.flatMap dM)∧Base a c:=by
 obtain⟨aN,cN,aD,cD,aE,cE,h1,-,-,h4,-,-,hE,hz⟩:=h.head
 exact⟨aE,cE,by simp[World.cell?,h1],h4,hE,hz⟩
theorem eX.nodes {w:World} (h:eX F w r T D E):∃a c,w.cell? ⟨r,0,none⟩=some (.slice a T.length c)∧T.length≤c:=by
 obtain⟨aN,cN,aD,cD,aE,cE,h1,h4,-,-,-,-,-,-⟩:=h.head
 exact⟨aN,cN,by simp[World.cell?,h1],h4⟩
set_option maxHeartbeats 1000000 in
theorem sQ (id:Int) (w:World) (h:eX F w r T D E) (hT:uK T):Calls Tryz.prog 73 #[ptr r, .int .i64 id] w fun e w'=>e= .returned (.tuple #[nU T id, .bool (aF id T).isSome])∧Below w.heap.size w w':=by
 have hlen:=hT.len
 have HR:=Lib.hid (fun o=>pJ id (w.alloc o) (h.below (wall w o) (Nat.le_refl _)) hlen)
 have hr0:=h.low r h.own
 unfold nU
 cases hx:aF id T with
 |none=>
  rw[rH hx]at HR
  clear h hx hT
  go_enter Tryz.func73,Tryz.ntmps73
  go_wp2_with fail
  (with_reducible refine(HR.out _).mono ?_)
  rintro e w1 ⟨rfl,rfl⟩
  go_wp2_with fail
  exact bodyPost_ret (v:= .tuple #[.agg #[.int .i64 0, .int .i64 0, .int .i64 0, .int .i64 0, .int .u64 0, .bool false], .bool false]) (by simp[results,Tryz.results73,go_sem]) rfl ⟨rfl,wall w _⟩
 |some x=>
  obtain⟨k,hk,hq⟩:=jw hT.sorted hx
  rw[hk]at HR
  obtain⟨b,off,c,hc0,hF,hb,hkl,c0,c1,c2,c3,c4,c5⟩:=h.node hq
  have i0:(0:Int)≤k:=by omega
  have i1:(k:Int)<T.length:=by omega
  have i2:¬(k:Int)<0:=by omega
  simp only at c0 c1 c2 c3 c4 c5
  clear h hx hk hq hT
  unfold kH
  go_enter Tryz.func73,Tryz.ntmps73
  go_wp2_with fail
  (with_reducible refine(HR.out _).mono ?_)
  rintro e w1 ⟨rfl,rfl⟩
  go_wp2_with fail
  exact bodyPost_ret (v:= .tuple #[.agg #[.int .i64 id, .int .i64 x.kind, .int .i64 x.links, .int .i64 x.b.length, .int .u64 x.aS, .bool x.closed], .bool true]) (by simp[results,Tryz.results73,go_sem]) rfl ⟨rfl,wall w _⟩
set_option maxHeartbeats 1000000 in
theorem nK (d:Int) (nm:Nm) (w:World) (h:eX F w r T D E) (hl:E.length≤1000000):Calls Tryz.prog 63 #[ptr r, .int .i64 d, .string (strOf nm)] w fun e w'=>e= .returned (.int .i64 (mI (fJ d nm) E))∧w=w':=by
 obtain⟨aE,cE,hc0,-,hE,-⟩:=h.ent
 have hr0:=h.low r h.own
 have HN:=Lib.hid hE
 obtain⟨n,hn⟩:∃n,n=E.length:=⟨_,rfl⟩
 rw[←hn]at hc0 hl HN
 have HL:=Lib.hid hn
 clear h hE hn
 go_enter Tryz.func63,Tryz.ntmps63
 go_wp2
 go_loop [7] (fun i=>∃k:Nat,k≤n∧i= .int .i64 k∧(E.take k).any (fJ d nm)=false) (fun i=>n-(intOf i).toNat)
 case atStart=>exact⟨0,by omega,rfl,by simp⟩
 case round=>
  obtain⟨k,hk,rfl,hany⟩:=hrel
  have HA:=Lib.hid hany
  clear hany
  by_cases hlt:k<n
  ·have hx:E[k]? =some (E[k]'(by have:=HL.out;omega)):=List.getElem?_eq_getElem _
   obtain⟨q,hq⟩:∃q,q=E[k]'(by have:=HL.out;omega):=⟨_,rfl⟩
   rw[←hq]at hx
   have HX:=Lib.hid hx
   obtain⟨b,off,rfl,hF,hb,hi,hc⟩:=HN.out.wide iL HL.out.symm hx (by omega)
   have c0:w.cell? ⟨b,off+k*3,none⟩=some (.int .i64 q.1):=hc 0 (by omega)
   have c1:w.cell? ⟨b,off+k*3+1,none⟩=some (.string (strOf q.2.1)):=hc 1 (by omega)
   clear hx hq hc
   have i0:(0:Int)≤k:=by omega
   have i1:(k:Int)<n:=by omega
   by_cases hp:q.1=d
   ·have hpp:(q.1==d)=true:=by simpa using hp
    by_cases hp2:q.2.1=nm
    ·have HP:Hid (fJ d nm q=true):=by show fJ d nm q=true;simp[fJ,hp,hp2]
     rw[hp2]at c1
     clear hp hp2
     go_wp2
     go_ret
     exact⟨fP (rU HA.out HX.out HP.out).symm,rfl⟩
    ·have HP:Hid (fJ d nm q=false):=by show fJ d nm q=false;simp[fJ,hp,hp2]
     obtain⟨hs1,hs2⟩:=Ib hp2
     clear hp hp2
     go_wp2
     go_round
     case rel=>exact⟨k+1,by omega,by go_num,any_take_succ HA.out HX.out HP.out⟩
     case measure=>simp[intOf];omega
   ·have hpp:(q.1==d)=false:=by simpa using hp
    have HP:Hid (fJ d nm q=false):=by show fJ d nm q=false;simp[fJ,hp]
    clear hp
    go_wp2
    go_round
    case rel=>exact⟨k+1,by omega,by go_num,any_take_succ HA.out HX.out HP.out⟩
    case measure=>simp[intOf];omega
  ·go_wp2
   go_ret
   exact⟨fP (kQ (by have:=HA.out;rwa [List.take_of_length_le (by have:=HL.out;omega)]at this)).symm,rfl⟩
end
theorem JM (s:ByteArray) (k:Nat) (h:k<s.size):s[k]=s.data.toList.getD k 0:=by
 have h2:k<s.data.toList.length:=by simpa using h
 simp only[List.getD,List.getElem?_eq_getElem h2,Option.getD_some]
 rfl
set_option maxHeartbeats 1000000 in
theorem FU (s:ByteArray) (w:World) (hs:s.size≤maxLen):
  Calls Tryz.prog 129 #[.string s] w fun e w'=>e= .returned (.bool (dB s.data.toList))∧Below w.heap.size w w':=by
 unfold maxLen at hs
 have hb:=Below.refl w.heap.size w
 go_enter Tryz.func129,Tryz.ntmps129
 go_wp2
 go_loop [3] (fun i=>∃k:Nat,k≤s.size∧i= .int .i64 k∧(s.data.toList.take k).all fO=true) (fun i=>s.size-(intOf i).toNat)
 case atStart=>exact⟨0,by omega,rfl,rfl⟩
 case round=>
  obtain⟨k,hk,rfl,ha⟩:=hrel
  have HA:=Lib.hid ha
  clear ha
  by_cases hlt:k<s.size
  ·obtain⟨c,hcc⟩:∃c,c=s.data.toList.getD k 0:=⟨_,rfl⟩
   have hix:=JM s k hlt
   rw[←hcc]at hix
   have hsn:=Ad fO s.data.toList k (by simpa using hlt)
   rw[←hcc]at hsn
   have HS:=Lib.hid hsn
   have HG:Hid (fO c=false→dB s.data.toList=false):=fun h=>by
    have:=Ae fO s.data.toList k (by simpa using hlt)
    rw[←hcc]at this
    simp[dB,this h]
   clear hsn hcc
   have hbd:=DX c
   rcases DW c with⟨ho,h1,h2⟩|⟨ho,h1,h2,h3⟩|⟨ho,h1⟩|⟨ho,h1⟩|⟨ho,h1⟩|⟨ho,h1,h2,h3,h4,h5,h6⟩|⟨ho,h1,h2,h3,h4,h5,h6⟩|⟨ho,h1,h2,h3,h4,h5⟩
   iterate 5
    ·have HO:=Lib.hid ho
     clear ho HG
     go_wp2
     go_round
     case rel=>exact⟨k+1,by omega,by go_num,by rw[HS.out,HA.out,HO.out];rfl⟩
     case measure=>simp[intOf];omega
   iterate 3
    ·have HO:=Lib.hid ho
     clear ho
     go_wp2
     go_ret
     exact⟨gQ (HG.out HO.out).symm,hb⟩
  ·have hk':k=s.size:=by omega
   have HA2:s.data.toList.all fO=true:=by
    have:=HA.out
    rw[hk',List.take_of_length_le (by simp)]at this
    exact this
   have hl:s.data.toList.length=s.size:=by simp
   have he:=ByteArray.toList_eq s
   have ways:(s.toList=[]∧s.toList.isEmpty=true∧dB s.data.toList=false)∨
     (¬s.toList=[]∧s.toList.isEmpty=false∧16<s.size∧dB s.data.toList=false)∨
     (¬s.toList=[]∧s.toList.isEmpty=false∧s.size≤16∧s.toList=[46]∧(s.toList==[46])=true∧dB s.data.toList=false)∨
     (¬s.toList=[]∧s.toList.isEmpty=false∧s.size≤16∧¬s.toList=[46]∧(s.toList==[46])=false∧s.toList=[46,46]∧(s.toList==[46,46])=true∧dB s.data.toList=false)∨
     (¬s.toList=[]∧s.toList.isEmpty=false∧s.size≤16∧¬s.toList=[46]∧(s.toList==[46])=false∧¬s.toList=[46,46]∧(s.toList==[46,46])=false∧dB s.data.toList=true):=by
    rw[he]
    generalize s.data.toList=l at HA2 hl
    rw[←hl]
    exact xI l HA2
   have hz1:Hid (s.toList=[]→s.size<1):=fun h=>by rw[he]at h;rw[h]at hl;simp at hl;omega
   have hz2:Hid (¬s.toList=[]→1≤s.size):=fun h=>by
    rw[he]at h
    have:=List.length_pos_iff.2 h
    omega
   clear HA2 hl he HA hk'
   rcases ways with⟨h1,h2,hg⟩|⟨h1,h2,h3,hg⟩|⟨h1,h2,h3,h4,h5,hg⟩|⟨h1,h2,h3,h4,h5,h6,h7,hg⟩|⟨h1,h2,h3,h4,h5,h6,h7,hg⟩
   ·have hz:=hz1.out h1
    have HG:=Lib.hid hg
    clear hg
    go_wp2
    go_ret
    exact⟨gQ HG.out.symm,hb⟩
   all_goals
    have hz:=hz2.out h1
    have HG:=Lib.hid hg
    clear hg
    go_wp2
    go_ret
    exact⟨gQ HG.out.symm,hb⟩
theorem jY {T:aI} (hs:aJ gL T) {e:iw}:e∈aQ T↔∃x,aF e.1 T=some x∧e.2∈x.names:=by
 unfold aQ
 rw[List.mem_flatMap]
 constructor
 ·rintro ⟨q,hq,he⟩
  obtain⟨y,hy,rfl⟩:=List.mem_map.1 he
  exact⟨q.2,bL dD hs hq,hy⟩
 ·rintro ⟨x,hx,he⟩
  exact⟨(e.1,x),eD hx,List.mem_map.2 ⟨e.2,he,rfl⟩⟩
theorem A_ {T:aI} (hs:aJ gL T) {id:Int} {x:bf} {nm:Nm} (hx:aF id T=some x) (hn:aF nm x.names=none):mI (fJ id nm) (aQ T)= -1:=by
 refine kQ ?_
 rw[List.any_eq_false]
 intro e he h
 obtain⟨y,hy,hm⟩:=(jY hs).1 he
 simp only[fJ,decide_eq_true_eq]at h
 rw[h.1,hx]at hy
 cases hy
 exact iZ.1 hn _ hm h.2
theorem Ba {T:aI} (hT:uK T) {id j:Int} {x:bf} {nm:Nm} (hx:aF id T=some x) (hn:aF nm x.names=some j):∃k:Nat,mI (fJ id nm) (aQ T)=k∧(aQ T)[k]? =some (id,nm,j):=by
 have hmem:((id,nm,j):iw)∈aQ T:=(jY hT.sorted).2 ⟨x,hx,eD hn⟩
 cases hf:(aQ T).findIdx? (fJ id nm)with
 |none=>
  rw[List.findIdx?_eq_none_iff]at hf
  have:=hf _ hmem
  simp[fJ]at this
 |some k=>
  refine⟨k,by simp[mI,hf],?_⟩
  rw[List.findIdx?_eq_some_iff_getElem]at hf
  obtain⟨hk,hp,_⟩:=hf
  have h1:(aQ T)[k]? =some (aQ T)[k]:=List.getElem?_eq_getElem hk
  obtain⟨e,he⟩:∃e,e=(aQ T)[k]:=⟨_,rfl⟩
  have hm:=List.getElem_mem hk
  rw[←he]at h1 hp hm
  simp only[fJ,decide_eq_true_eq]at hp
  obtain⟨y,hy,hm2⟩:=(jY hT.sorted).1 hm
  rw[hp.1,hx]at hy
  cases hy
  have h3:=bL Ac (hT.each id x hx).sorted hm2
  rw[hp.2,hn]at h3
  rw[h1]
  congr 1
  exact Prod.ext hp.1 (Prod.ext hp.2 (Option.some.inj h3).symm)
theorem vZ {S:Nat→Prop} {w:World} {a:Option Addr} {n:Nat} {ls:List Nm} (h:aW S w a n (ls.map strOf)) (k:Nat) (hk:k<n):∃b off nm,a=some ⟨b,off,none⟩∧S b∧b<w.heap.size∧ls[k]? =some nm∧nm.length≤maxLen∧w.cell? ⟨b,off+k,none⟩=some (.string (strOf nm)):=by
 obtain⟨b,off,s,e,hS,hb,hs,hsz,hc⟩:=h.cell k hk
 rw[List.getElem?_map]at hs
 cases hq:ls[k]? with
 |none=>rw[hq]at hs;cases hs
 |some nm=>
  rw[hq]at hs
  have:strOf nm=s:=by simpa using hs
  subst this
  rw[gT]at hsz
  exact⟨b,off,nm,e,hS,hb,rfl,hsz,hc⟩
theorem FV {ls:List Nm} (h:ls.any (fun x=> !dB x)=true):bV ls=12:=by unfold bV;rw[if_pos h]
theorem JN {ls:List Nm} (h:ls.any (fun x=> !dB x)=false):bV ls=if 8<ls.length then 3 else 0:=by unfold bV;rw[if_neg (by rw[h];decide)]
set_option maxHeartbeats 1000000 in
theorem wh {S:Nat→Prop} (a:Option Addr) (n c:Nat) (ls:List Nm) (w:World) (hS:aW S w a n (ls.map strOf)):
  Calls Tryz.prog 61 #[.slice a n c] w fun e w'=>e= .returned (.int .i64 (bV ls))∧Below w.heap.size w w':=by
 have hln:ls.length=n:=by have:=hS.length;simpa using this
 have hnm:=hS.row.small
 unfold maxLen at hnm
 have HS:=Lib.hid (fun w1 (hb:Below w.heap.size w w1)=>hS.below hb (Nat.le_refl _))
 have HL:=Lib.hid hln
 clear hS hln
 go_enter Tryz.func61,Tryz.ntmps61
 go_wp2
 go_loopw [3] (fun i wr=>∃k:Nat,k≤n∧i= .int .i64 k∧(ls.take k).any (fun x=> !dB x)=false∧Below w.heap.size w wr) (fun i _=>n-(intOf i).toNat)
 case atStart=>exact⟨0,by omega,rfl,by simp,Below.refl _ _⟩
 case round=>
  obtain⟨k,hk,rfl,hany,hB⟩:=hrel
  have HA:=Lib.hid hany
  have HB:=Lib.hid hB
  clear hany hB
  by_cases hlt:k<n
  ·obtain⟨b,off,nm,rfl,_,hbw,hx,hsz,hc⟩:=vZ (HS.out wr HB.out) k hlt
   have HX:=Lib.hid hx
   have HG:=Lib.hid (FU (strOf nm) wr (by rw[gT];exact hsz))
   have e0:(strOf nm).data.toList=nm:=by simp[strOf]
   rw[e0]at HG
   clear hx hsz e0
   have i0:(0:Int)≤k:=by omega
   have i1:(k:Int)<n:=by omega
   cases hp:dB nm with
   |true=>
    rw[hp]at HG
    have HP:Hid ((fun x:Nm=> !dB x) nm=false):=by show(!dB nm)=false;rw[hp];rfl
    clear hp
    go_wp2_with fail
    (with_reducible refine HG.out.mono ?_)
    rintro e w1 ⟨rfl,hb1⟩
    go_wp2_with fail
    go_roundw
    case rel=>exact⟨k+1,by omega,by go_num,any_take_succ HA.out HX.out HP.out,HB.out.trans (hb1.mono HB.out.size)⟩
    case measure=>simp[intOf];omega
   |false=>
    rw[hp]at HG
    have HP:Hid (ls.any (fun x=> !dB x)=true):=by
     show ls.any _=true
     rw[List.any_eq_true]
     exact⟨nm,List.mem_of_getElem? HX.out,by rw[hp];rfl⟩
    clear hp
    go_wp2_with fail
    (with_reducible refine HG.out.mono ?_)
    rintro e w1 ⟨rfl,hb1⟩
    go_wp2_with fail
    go_ret
    exact⟨fP (FV HP.out).symm,HB.out.trans (hb1.mono HB.out.size)⟩
  ·have HF:Hid (bV ls=if 8<n then 3 else 0):=by
    have:=HA.out
    rw[List.take_of_length_le (by have:=HL.out;omega)]at this
    have h2:=JN this
    rw[HL.out]at h2
    exact h2
   by_cases h8:8<n
   ·have hd:decide ((8:Int)<(n:Int))=true:=by simp only[decide_eq_true_eq];omega
    rw[if_pos h8]at HF
    clear h8
    go_wp2
    go_ret
    exact⟨fP HF.out.symm,HB.out⟩
   ·have hd:decide ((8:Int)<(n:Int))=false:=by simp only[decide_eq_false_iff_not];omega
    rw[if_neg h8]at HF
    clear h8
    go_wp2
    go_ret
    exact⟨fP HF.out.symm,HB.out⟩
section
variable {F:Nat→Prop} {r:Nat} {T:aI}
set_option maxHeartbeats 2000000 in
theorem yC {S:Nat→Prop} (a:Option Addr) (n c:Nat) (ls:List Nm) (w:World) (h:jr F w r T) (hT:dR T) (hE:(aQ T).length≤1000000) (hS:aW S w a n (ls.map strOf)):
  Calls Tryz.prog 72 #[ptr r, .slice a n c] w fun e w'=>e= .returned (.tuple #[.int .i64 (aY T 0 ls).1, .int .i64 (aY T 0 ls).2])∧Below w.heap.size w w':=by
 have hln:ls.length=n:=by have:=hS.length;simpa using this
 have hnm:=hS.row.small
 unfold maxLen at hnm
 have HS:=Lib.hid (fun w1 (hb:Below w.heap.size w w1)=>hS.below hb (Nat.le_refl _))
 have HH:=Lib.hid (fun w1 (hb:Below w.heap.size w w1)=>h.below hb (Nat.le_refl _))
 have hr0:=h.low r h.own
 have HT:=Lib.hid hT
 have HL:=Lib.hid hln
 have HE:=Lib.hid hE
 clear hS hln h hT hE
 go_enter Tryz.func72,Tryz.ntmps72
 go_wp2
 go_loopw [6,7] (fun s i wr=>∃(k:Nat) (id:Int),k≤n∧i= .int .i64 k∧s= .int .i64 id∧(aF id T).isSome=true∧aY T id (ls.drop k)=aY T 0 ls∧Below w.heap.size w wr) (fun _ i _=>n-(intOf i).toNat)
 case atStart=>exact⟨0,0,by omega,rfl,rfl,gG HT.out,by simp,Below.refl _ _⟩
 case round=>
  obtain⟨k,id,hk,rfl,rfl,hid,hlk,hB⟩:=hrel
  obtain⟨x,hx⟩:=Option.isSome_iff_exists.1 hid
  have sw:=Lib.hid hlk
  have HX:=Lib.hid hx
  have HB:=Lib.hid hB
  have HSZ:=Lib.hid hB.size
  clear hlk hid hx hB
  by_cases hlt:k<n
  ·obtain⟨b,off,nm,rfl,_,hbw,hn,hsz,hc⟩:=vZ (HS.out wr HB.out) k hlt
   have HN:=Lib.hid hn
   have N9:=Lib.hid (sQ id wr (HH.out wr HB.out) HT.out.touK)
   have hnd:nU T id=kH id x:=by unfold nU;rw[HX.out]
   rw[hnd]at N9
   unfold kH at N9
   have i0:(0:Int)≤k:=by omega
   have i1:(k:Int)<n:=by omega
   clear hn hnd hsz
   by_cases hk2:x.kind=2
   ·rw[hk2]at N9
    cases hj:aF nm x.names with
    |none=>
     have hfin:=Lib.hid (vw HX.out hk2 HN.out hj)
     have LV:=Lib.hid (fun w1 (hb:Below w.heap.size w w1)=>nK id nm w1 (HH.out w1 hb) HE.out)
     rw[A_ HT.out.sorted HX.out hj]at LV
     clear hj hk2
     go_wp2_with fail
     (with_reducible refine N9.out.mono ?_)
     rintro e w1 ⟨rfl,hb1⟩
     have HB1:=Lib.hid (HB.out.trans (hb1.mono HB.out.size))
     have hcb:b<w1.heap.size:=Nat.lt_of_lt_of_le hbw hb1.size
     have hc1:w1.cell? ⟨b,off+k,none⟩=some (.string (strOf nm)):=by rw[hb1.cell (p:=⟨b,off+k,none⟩) hbw];exact hc
     have hr1:r<w1.heap.size:=Nat.lt_of_lt_of_le hr0 HB1.out.size
     clear hb1
     go_wp2_with fail
     (with_reducible refine(LV.out _ (HB1.out.trans ((wall w1 _).mono HB1.out.size))).mono ?_)
     rintro e w2 ⟨rfl,rfl⟩
     go_wp2_with fail
     go_ret2
     exact⟨mY (by rw[←sw.out,hfin.out]),HB1.out.trans ((wall w1 _).mono HB1.out.size)⟩
    |some j=>
     have hfin:=Lib.hid (vo HX.out hk2 HN.out hj)
     have HJ:=Lib.hid ((HT.out.leads id x HX.out _ (eD hj)).1)
     have LV:=Lib.hid (fun w1 (hb:Below w.heap.size w w1)=>nK id nm w1 (HH.out w1 hb) HE.out)
     obtain⟨m,hm1,hm2⟩:=Ba HT.out.touK HX.out hj
     rw[hm1]at LV
     have D8:=Lib.hid hm2
     clear hj hk2 hm1 hm2
     go_wp2_with fail
     (with_reducible refine N9.out.mono ?_)
     rintro e w1 ⟨rfl,hb1⟩
     have HB1:=Lib.hid (HB.out.trans (hb1.mono HB.out.size))
     have hcb:b<w1.heap.size:=Nat.lt_of_lt_of_le hbw hb1.size
     have hc1:w1.cell? ⟨b,off+k,none⟩=some (.string (strOf nm)):=by rw[hb1.cell (p:=⟨b,off+k,none⟩) hbw];exact hc
     have hr1:r<w1.heap.size:=Nat.lt_of_lt_of_le hr0 HB1.out.size
     obtain⟨aE,cE,q2,-,hrow,-⟩:=(HH.out w1 HB1.out).ent
     obtain⟨b2,off2,rfl,-,hb2,hml,hc2⟩:=hrow.wide iL rfl D8.out (by omega)
     have q3:w1.cell? ⟨b2,off2+m*3+2,none⟩=some (.int .i64 j):=hc2 2 (by omega)
     have m0:(0:Int)≤m:=by omega
     have m1:(m:Int)<(aQ T).length:=by omega
     have m2:¬(m:Int)<0:=by omega
     clear hb1 hrow hc2
     go_wp2_with fail
     (with_reducible refine(LV.out _ (HB1.out.trans ((wall w1 _).mono HB1.out.size))).mono ?_)
     rintro e w2 ⟨rfl,rfl⟩
     go_wp2_with fail
     go_roundw
     case rel=>exact⟨k+1,j,by omega,by go_num,rfl,HJ.out,by rw[←hfin.out];exact sw.out,HB1.out.trans ((wall w1 _).mono HB1.out.size)⟩
     case measure=>simp[intOf];omega
   ·have e1:(x.kind==2)=false:=by simpa using hk2
    have e2:(x.kind !=2)=true:=by simpa using hk2
    have hfin:=Lib.hid (vv HX.out hk2 HN.out)
    clear hk2
    go_wp2_with fail
    (with_reducible refine N9.out.mono ?_)
    rintro e w1 ⟨rfl,hb1⟩
    have HB1:=Lib.hid (HB.out.trans (hb1.mono HB.out.size))
    clear hb1
    go_wp2_with fail
    go_ret2
    exact⟨mY (by rw[←sw.out,hfin.out]),HB1.out.trans ((wall w1 _).mono HB1.out.size)⟩
  ·go_wp2
   go_ret2
   exact⟨mY (by rw[←sw.out,List.drop_of_length_le (by have:=HL.out;omega)];rfl),HB.out⟩
end
theorem Ev:∀a b:List UInt8,Op.bytesLess a b=bytesBefore a b
 |[],[]=>rfl
 |[],_::_=>rfl
 |_::_,[]=>rfl
 |x::r,y::s=>by
  unfold Op.bytesLess bytesBefore
  rw[Ev r s]
def jg (d:Int) (nm:Nm) (e:iw):Bool:=decide (e.1<d)||(decide (e.1=d)&&bytesBefore e.2.1 nm)
def mQ (E:List iw) (d:Int) (nm:Nm) (id:Int):List iw:=E.takeWhile (jg d nm)++(d,nm,id)::E.dropWhile (jg d nm)
theorem qA {α:Type} {p:α→Bool}:∀{l:List α} {k:Nat},(l.take k).all p=true→(∀x,l[k]? =some x→p x=false)→k≤l.length→l.takeWhile p=l.take k∧l.dropWhile p=l.drop k
 |[],k,_,_,hk=>by simp
 |y::r,0,_,h,_=>by
  have:=h y (by simp)
  simp[this]
 |y::r,k+1,ha,h,hk=>by
  simp only[List.take_succ_cons,List.all_cons,Bool.and_eq_true]at ha
  obtain⟨h1,h2⟩:=qA (l:=r) (k:=k) ha.2 (fun x hx=>h x (by simpa using hx)) (by simpa using hk)
  simp[ha.1,h1,h2]
section
variable {κ α:Type} {lt:κ→κ→Bool}
theorem zD (L:kg lt) (x:κ×α):∀(l:List (κ×α)),(∀p∈l,p.1≠x.1)→gB lt x l=l.takeWhile (fun y=>lt y.1 x.1)++x::l.dropWhile (fun y=>lt y.1 x.1)∨¬aJ lt l
 |[],_=> .inl (by simp[gB])
 |y::r,hn=>by
  have hy:y.1≠x.1:=hn y (by simp)
  have no:∀a b,lt a b=true→lt b a=false:=fun a b h=>by
   cases h3:lt b a with
   |false=>rfl
   |true=>have:=L.trans _ _ _ h h3;rw[L.RU]at this;cases this
  by_cases hs:aJ lt (y::r)
  ·left
   rcases L.tot y.1 x.1 hy with h|h
   ·have h2:=no _ _ h
    unfold gB
    rcases zD L x r (fun p hp=>hn p (by simp[hp]))with h3|h3
    ·rw[if_neg (by rw[h2];decide),List.takeWhile_cons,List.dropWhile_cons,if_pos h,if_pos h,h3]
     rfl
    ·exact absurd (List.pairwise_cons.1 hs).2 h3
   ·have h2:=no _ _ h
    unfold gB
    rw[if_pos h,List.takeWhile_cons,List.dropWhile_cons,if_neg (by rw[h2];decide),if_neg (by rw[h2];decide)]
    rfl
  ·exact .inr hs
end
theorem FW {d id:Int} {nm:Nm} {A B:List iw} (h:∀e∈A,jg d nm e=true):mQ (A++B) d nm id=A++mQ B d nm id:=by
 unfold mQ
 rw[List.takeWhile_append_of_pos h,List.dropWhile_append_of_pos h,List.append_assoc]
theorem Da {α:Type} {p:α→Bool}:∀{B:List α},(∀e∈B,p e=false)→B.takeWhile p=[]∧B.dropWhile p=B
 |[],_=>⟨rfl,rfl⟩
 |e::r,h=>by
  have:=h e (by simp)
  simp[this]
theorem yD {d id:Int} {nm:Nm} {B:List iw} (h:∀e∈B,jg d nm e=false):∀A:List iw,mQ (A++B) d nm id=mQ A d nm id++B
 |[]=>by
  obtain⟨h1,h2⟩:=Da h
  unfold mQ
  rw[List.nil_append,h1,h2]
  simp
 |e::r=>by
  have ih:=yD (id:=id) h r
  unfold mQ at ih⊢
  rw[List.cons_append,List.takeWhile_cons,List.dropWhile_cons,List.takeWhile_cons,List.dropWhile_cons]
  cases he:jg d nm e with
  |true=>
   simp only[if_true,List.cons_append,ih]
  |false=>simp
theorem dA (y:Int×bf) (r:aI):aQ (y::r)=iY y++aQ r:=by unfold aQ;rw[List.flatMap_cons]
theorem zF {T:aI} {e:iw} (h:e∈aQ T):∃q∈T,q.1=e.1∧e.2∈q.2.names:=by
 unfold aQ at h
 obtain⟨q,hq,he⟩:=List.mem_flatMap.1 h
 obtain⟨y,hy,rfl⟩:=List.mem_map.1 he
 exact⟨q,hq,rfl,hy⟩
theorem kU (k:Int) (f:bf→bf) (y:Int×bf) (r:aI):aT k f (y::r)=(if y.1=k then(y.1,f y.2)else y)::aT k f r:=rfl
theorem yE {k:Int} {f:bf→bf} {r:aI} (h:∀q∈r,q.1≠k):aT k f r=r:=by
 unfold aT
 conv=>rhs;rw[←List.map_id r]
 apply List.map_congr_left
 intro q hq
 rw[if_neg (h q hq)]
 rfl
theorem wm {d id:Int} {nm:Nm}:∀{T:aI} {x:bf},aJ gL T→aF d T=some x→aJ bytesBefore x.names→aF nm x.names=none→mQ (aQ T) d nm id=aQ (setName T d nm id)
 |[],x,_,hx,_,_=>by cases hx
 |y::r,x,hs,hx,hns,hn=>by
  obtain⟨h1,h2⟩:=List.pairwise_cons.1 hs
  rw[eP]at hx
  unfold setName
  rw[kU,dA,dA]
  by_cases hy:y.1=d
  ·rw[if_pos hy]at hx
   cases hx
   rw[if_pos hy,yE (fun q hq=>by have:=h1 q hq;simp at this;omega)]
   rw[yD (fun e he=>by
    obtain⟨q,hq,hk,_⟩:=zF he
    have:=h1 q hq
    simp only[decide_eq_true_eq]at this
    unfold jg
    have a1:¬e.1<d:=by omega
    have a2:¬e.1=d:=by omega
    simp[a1,a2])]
   congr 1
   unfold mQ iY
   have hp:(jg d nm)∘(fun e:Nm×Int=>((y.1,e.1,e.2):iw))=fun e=>bytesBefore e.1 nm:=by
    funext e
    simp[jg,hy]
   rw[List.takeWhile_map,List.dropWhile_map,hp]
   have hk:∀p∈y.2.names,p.1≠nm:=iZ.1 hn
   unfold bP
   rw[jC hn]
   rcases zD Ac (nm,id) y.2.names hk with h3|h3
   ·rw[h3,List.map_append,List.map_cons,hy]
   ·exact absurd hns h3
  ·rw[if_neg hy]at hx
   rw[if_neg hy]
   have hlt:=h1 _ (eD hx)
   simp only[decide_eq_true_eq]at hlt
   rw[FW (fun e he=>by
    obtain⟨z,hz,rfl⟩:=List.mem_map.1 he
    unfold jg
    simp[hlt])]
   rw[wm h2 hx hns hn]
   rfl
theorem qB {α:Type} {p:α→Bool}:∀{l:List α} {k:Nat} {x:α},l[k]? =some x→p x=true→l.Pairwise (fun a b=>¬(p a=true∧p b=true))→l.take k++l.drop (k+1)=l.filter fun a=> !p a
 |[],k,x,h,_,_=>by simp at h
 |y::r,0,x,h,hp,hw=>by
  simp only[List.getElem?_cons_zero,Option.some.injEq]at h
  subst h
  have h1:=(List.pairwise_cons.1 hw).1
  simp only[List.take_zero,List.nil_append,Nat.zero_add,List.drop_succ_cons,List.drop_zero,List.filter_cons,hp,Bool.not_true]
  rw[if_neg (by decide)]
  symm
  rw[List.filter_eq_self]
  intro a ha
  cases hpa:p a with
  |false=>rfl
  |true=>exact absurd ⟨hp,hpa⟩ (h1 a ha)
 |y::r,k+1,x,h,hp,hw=>by
  obtain⟨h1,h2⟩:=List.pairwise_cons.1 hw
  have hx:r[k]? =some x:=by simpa using h
  have hy:p y=false:=by
   cases hpy:p y with
   |false=>rfl
   |true=>exact absurd ⟨hpy,hp⟩ (h1 x (List.mem_of_getElem? hx))
  rw[List.take_succ_cons,List.drop_succ_cons,List.cons_append,qB hx hp h2,List.filter_cons,hy]
  rfl
theorem Db {T:aI} (hs:aJ gL T) (hn:∀q∈T,aJ bytesBefore q.2.names) (d:Int) (nm:Nm):(aQ T).Pairwise fun a b=>¬(fJ d nm a=true∧fJ d nm b=true):=by
 unfold aQ
 rw[List.pairwise_flatMap]
 refine⟨fun q hq=> ?_,?_⟩
 ·unfold iY
  rw[List.pairwise_map]
  refine List.Pairwise.imp (fun{a b} hab=> ?_) (hn q hq)
  simp only[fJ,decide_eq_true_eq]
  rintro ⟨⟨_,h1⟩,_,h2⟩
  rw[h1,h2,Ac.RU]at hab
  cases hab
 ·refine List.Pairwise.imp (fun{a b} hab=> ?_) hs
  intro x hx y hy
  obtain⟨x',_,rfl⟩:=List.mem_map.1 hx
  obtain⟨y',_,rfl⟩:=List.mem_map.1 hy
  simp only[fJ,decide_eq_true_eq]
  rintro ⟨⟨h1,_⟩,h2,_⟩
  simp only[decide_eq_true_eq]at hab
  omega
theorem wB (d:Int) (nm:Nm):∀T:aI,(aQ T).filter (fun e=> !fJ d nm e)=aQ (aU T d nm)
 |[]=>rfl
 |y::r=>by
  have ih:=wB d nm r
  unfold aU at ih⊢
  rw[kU,dA,dA,List.filter_append,ih]
  congr 1
  unfold iY
  rw[List.filter_map]
  by_cases hy:y.1=d
  ·rw[if_pos hy]
   unfold bK
   simp only
   congr 1
   apply List.filter_congr
   intro e _
   simp[fJ,hy]
  ·rw[if_neg hy]
   congr 1
   rw[List.filter_eq_self]
   intro e _
   simp[fJ,hy]
theorem yF {x:Int×bf} (hx:x.2.names=[]):∀T:aI,aQ (gB gL x T)=aQ T
 |[]=>by
  unfold gB
  rw[dA];unfold iY;rw[hx];rfl
 |y::r=>by
  unfold gB
  split
  ·rw[dA];unfold iY;rw[hx];rfl
  ·rw[dA,dA,yF hx r]
theorem wC {T:aI} {f kind:Int} (hf:aF f T=none):aQ (bP gL f (aX kind) T)=aQ T:=by
 unfold bP
 rw[jC hf]
 exact yF (x:=(f,aX kind)) rfl T
theorem Bb {id:Int}:∀{T:aI},(∀q∈T,q.1=id→q.2.names=[])→aQ (bK id T)=aQ T
 |[],_=>rfl
 |y::r,h=>by
  have ih:=Bb (T:=r) (id:=id) fun q hq=>h q (by simp[hq])
  unfold bK at ih⊢
  rw[List.filter_cons]
  by_cases hy:y.1=id
  ·have:=h y (by simp) hy
   simp only[hy,decide_true,Bool.not_true]
   rw[if_neg (by decide),ih,dA]
   unfold iY
   rw[this];rfl
  ·simp only[hy,decide_false,Bool.not_false,if_true]
   rw[dA,dA,ih]
theorem kV {id:Int} {f:bf→bf} (hf:∀x,(f x).names=x.names):∀T:aI,aQ (aT id f T)=aQ T
 |[]=>rfl
 |y::r=>by
  rw[kU,dA,dA,kV hf r]
  congr 1
  by_cases hy:y.1=id
  ·rw[if_pos hy];unfold iY;simp only;rw[hf]
  ·rw[if_neg hy]
theorem wD (id:Int):∀T:aI,aQ (dW T id)=(aQ T).filter fun e=> !decide (e.2.2=id)
 |[]=>rfl
 |y::r=>by
  have:dW (y::r) id=(y.1,eG id y.2)::dW r id:=rfl
  rw[this,dA,dA,List.filter_append,wD id r]
  congr 1
  unfold iY eG
  simp only
  rw[List.filter_map]
  rfl
theorem JO {T:aI} (hs:aJ gL T) (id:Int):T.Pairwise fun a b=>¬(lQ id a=true∧lQ id b=true):=by
 refine List.Pairwise.imp (fun{a b} hab=> ?_) hs
 simp only[lQ,decide_eq_true_eq]
 simp only[decide_eq_true_eq]at hab
 omega
theorem PK {T:aI} (hs:aJ gL T) {k:Nat} {q:Int×bf} (hq:T[k]? =some q):T.take k++T.drop (k+1)=bK q.1 T:=by
 rw[qB (p:=lQ q.1) hq (by simp[lQ]) (JO hs q.1)]
 rfl
theorem mD {f:bf→bf}:∀{T:aI} {k:Nat} {q:Int×bf},aJ gL T→T[k]? =some q→T.set k (q.1,f q.2)=aT q.1 f T
 |[],k,q,_,h=>by simp at h
 |y::r,0,q,hs,h=>by
  simp only[List.getElem?_cons_zero,Option.some.injEq]at h
  subst h
  obtain⟨h1,_⟩:=List.pairwise_cons.1 hs
  rw[kU,if_pos rfl,yE (fun p hp=>by have:=h1 p hp;simp at this;omega)]
  rfl
 |y::r,k+1,q,hs,h=>by
  obtain⟨h1,h2⟩:=List.pairwise_cons.1 hs
  have hx:r[k]? =some q:=by simpa using h
  have:=h1 q (List.mem_of_getElem? hx)
  simp only[decide_eq_true_eq]at this
  rw[kU,if_neg (by omega),←mD h2 hx]
  rfl
theorem qC {id:Int} {f:bf→bf} (hf:∀x,bA (id,f x)=bA (id,x)):∀T:aI,(aT id f T).flatMap bA=T.flatMap bA
 |[]=>rfl
 |y::r=>by
  rw[kU,List.flatMap_cons,List.flatMap_cons,qC hf r]
  congr 1
  by_cases hy:y.1=id
  ·rw[if_pos hy,hy,hf,←hy]
  ·rw[if_neg hy]
theorem ni {id:Int} {f:bf→bf} (hf:∀x,(f x).b=x.b) (T:aI):(aT id f T).map (fun q=>q.2.b)=T.map fun q=>q.2.b:=by
 unfold aT
 rw[List.map_map]
 apply List.map_congr_left
 intro q _
 by_cases h:q.1=id<;>simp[h,hf]
theorem Bc (id:Int) (T:aI):(dW T id).flatMap bA=T.flatMap bA:=by
 unfold dW
 rw[List.flatMap_map]
 rfl
theorem Dc (id:Int) (T:aI):(dW T id).map (fun q=>q.2.b)=T.map fun q=>q.2.b:=by
 unfold dW
 rw[List.map_map]
 rfl
theorem data_set {f:bf→bf} {T:aI} {k:Nat} {q:Int×bf} (hs:aJ gL T) (hq:T[k]? =some q):(aT q.1 f T).map (fun q=>q.2.b)=(T.map fun q=>q.2.b).set k (f q.2).b:=by
 rw[←mD hs hq,List.map_set]
theorem PL {T:aI} (hs:aJ gL T) {f:Int} (x:bf) (hf:aF f T=none):bP gL f x T=T.takeWhile (fun q=>decide (q.1<f))++(f,x)::T.dropWhile fun q=>decide (q.1<f):=by
 unfold bP
 rw[jC hf]
 rcases zD dD (f,x) T (iZ.1 hf)with h|h
 ·exact h
 ·exact absurd hs h
theorem lG {T:aI} (hT:dR T):(aQ T).length≤4096:=by
 have h1:=B_ (fun e:iw=>e.2.2) 64 (T.map (·.1)) (aQ T) (fun e he=>by
  obtain⟨x,hx,hm⟩:=(jY hT.sorted).1 he
  obtain⟨y,hy⟩:=Option.isSome_iff_exists.1 (hT.leads _ x hx e.2 hm).1
  exact List.mem_map.2 ⟨_,eD hy,rfl⟩) (fun j hj=>by
   have hcnt:(aQ T).countP (fun e=>decide (e.2.2=j))=fZ T j:=by
    unfold aQ fZ cn
    rw[List.countP_flatMap]
    congr 1
    apply List.map_congr_left
    intro q _
    unfold iY
    simp only[Function.comp_apply,List.countP_map]
    rfl
   rw[hcnt]
   by_cases h0:j=0
   ·have:(aQ T).countP (fun e=>decide (e.2.2=j))=0:=by
     rw[List.countP_eq_zero]
     intro e he
     obtain⟨x,hx,hm⟩:=(jY hT.sorted).1 he
     have:=(hT.leads _ x hx e.2 hm).2
     simp[h0,this]
    omega
   ·obtain⟨q,hq,rfl⟩:=List.mem_map.1 hj
    have hy:=bL dD hT.sorted hq
    have h2:=hT.counts _ _ hy h0
    have h3:=(hT.each _ _ hy).links
    omega)
 have:=hT.len
 rw[List.length_map]at h1
 omega
end Go.Proofs.YtohpcppeajijnaaGreat
