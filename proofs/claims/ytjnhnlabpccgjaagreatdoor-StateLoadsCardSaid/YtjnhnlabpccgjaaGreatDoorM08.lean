/- path -/
import Derived.Test.YtjnhnlabpccgjaaGreatDoorM06
import Derived.Test.YtjnhnlabpccgjaaGreatDoorM07
import Derived.BigQuiet
import Derived.Deep.QuietTactic
import Derived.Deep.RegionHeld3
import Derived.OwnWalk
import Derived.IntWalk
set_option maxRecDepth 100000
set_option maxHeartbeats 64000000
set_option linter.all false
namespace Go.Proofs.YtjnhnlabpccgjaaGreatDoor
open Go.ChangeShapes Go.WideShapes Go.ChangeAt Go.RowKit
def BJ(ss:List ByteArray):List (List UInt8):=ss.map (fun s=>s.data.toList)
abbrev wW(B:Nat):Nat→Prop:=fun b=>B≤b
theorem Ja{w:World}{base:Nat}{e:TypeId}{v:Value}{n:Nat}{ss:List ByteArray}(h:w.ownsRow base e 1 v n (ss.map .string))(hs:∀s∈ss,s.size≤maxLen):
  ∃a cap,v= .slice a n cap∧aT (wW base) w a n ss:=by
 have h0:=h;obtain⟨hl,h⟩:=h;rcases h with⟨rfl,rfl⟩|⟨g,cap,cur,rfl,hb,hh,hn,hm,hsz,ht⟩
 ·obtain rfl:ss=[]:=by simpa using hl
  exact⟨none,0,rfl,ah.nil _ _ _,by simp⟩
 ·refine⟨_,cap,rfl,⟨by simpa using hl,by omega,fun _=>⟨g,0,rfl,hb,(iL.1 hh).1,fun i hi=> ?_⟩⟩,hs⟩;rw[Nat.zero_add,h0.cellAt i (by omega)]
theorem PU{S:Nat→Prop}{w:World}{b off len:Nat}{ss:List ByteArray}(h:aT S w (some ⟨b,off,none⟩) len ss)(j:Nat)(hj:j<ss.length):
  w.cell? ⟨b,off+j,none⟩=some (.string (ss.getD j ByteArray.empty)):=by
 obtain⟨b',off',s,e,_,_,hs,_,hc⟩:=h.cell j (by have:=h.length;omega);simp only[Pd,aaQ,aaI]at e;obtain⟨rfl,rfl⟩:=e;rw[hc];simp[List.getD,hs]
def W_(w:World)(n:Nat)(ss:List ByteArray)(e:Ending)(w':World):Prop:=
 ∃g cap,e= .returned (.slice (some ⟨g,0,none⟩) n cap)∧n≤cap∧aT (wW w.heap.size) w' (some ⟨g,0,none⟩) n ss∧Below w.heap.size w w'
theorem yH{w:World}{base:Nat}{e:TypeId}{v:Value}{n:Nat}{ss:List ByteArray}(h:w.ownsRow base e 1 v n (ss.map .string))(hs:∀s∈ss,s.size≤maxLen)(hv:v≠ .slice none 0 0):
  ∃g cap,v= .slice (some ⟨g,0,none⟩) n cap∧n≤cap∧aT (wW base) w (some ⟨g,0,none⟩) n ss:=by
 obtain⟨a,cap,rfl,hS⟩:=Ja h hs;obtain⟨_,h⟩:=h;rcases h with⟨h,_⟩|⟨g,cap',cur,h,_,_,h2,_⟩
 ·exact absurd h hv
 ·simp only[aak,abR]at h;obtain⟨rfl,rfl⟩:=h;exact⟨g,_,rfl,h2,hS⟩
theorem Lx{S:Nat→Prop}(ad:Addr)(len cap:Nat)(ss:List ByteArray)(w:World)(h:aT S w (some ad) len ss)(hsz:len*16≤140737488355328):
  Calls Tryz.prog 212 #[.slice (some ad) len cap] w (W_ w len ss):=by
 have hl:=h.length;by_cases h0:len=0
 ·subst h0;obtain rfl:ss=[]:=by simpa using hl
  refine(Tryz.slices_Clone_string_zero ad cap w).mono ?_;rintro e w' ⟨v,rfl,ho,hv,hb⟩;obtain⟨g,cap',rfl,hc,hS⟩:=yH (ss:=[]) (by simpa using ho) (by simp) hv;exact⟨g,cap',rfl,hc,hS,hb⟩
 ·obtain⟨b,off,e,_,_,_⟩:=h.row.at_ (by omega);simp only[Pd]at e;subst e;refine(Tryz.slices_Clone_string b off len cap ss w (by omega) hsz (fun j hj=>PU h j hj)).mono ?_;rintro e w' ⟨v,rfl,ho,hv,hb⟩;rw[List.take_of_length_le (by omega)]at ho;obtain⟨g,cap',rfl,hc,hS⟩:=yH ho h.short hv;exact⟨g,cap',rfl,hc,hS,hb⟩
theorem aT.take{S:Nat→Prop}{w:World}{a:Option Addr}{len:Nat}{ss:List ByteArray}(h:aT S w a len ss)(k:Nat)(hk:k≤len):aT S w a k (ss.take k):=by
 have hl:=h.length;refine⟨⟨by simp;omega,aax hk h.row.small,fun h0=> ?_⟩,fun s hs=>h.short s (List.mem_of_mem_take hs)⟩;obtain⟨b,off,e,hS,hb,hc⟩:=h.row.at_ (by omega);refine⟨b,off,e,hS,hb,fun i hi=> ?_⟩;rw[hc i (by omega),aa3,aaD,if_pos hi]
def PV(w:World)(ss:List ByteArray)(e:Ending)(w':World):Prop:=
 (ss=[]∧e= .returned (.tuple #[.slice none 0 0,.string ⟨#[]⟩,.int .i64 1])∧w=w')∨
 ∃g cap x,ss.getLast? =some x∧e= .returned (.tuple #[.slice (some ⟨g,0,none⟩) (ss.length-1) cap,.string x,.int .i64 0])∧ss.length-1≤cap∧aT (wW w.heap.size) w' (some ⟨g,0,none⟩) (ss.length-1) ss.dropLast∧Below w.heap.size w w'
theorem LA{S:Nat→Prop}(a:Option Addr)(len cap:Nat)(ss:List ByteArray)(w:World)(h:aT S w a len ss)(hsz:len*16≤140737488355328)(hcap:len≤cap):
  Calls Tryz.prog 188 #[.slice a len cap] w (PV w ss):=by
 have hl:=h.length;by_cases h0:len=0
 ·subst h0;obtain rfl:ss=[]:=by simpa using hl
  go_enter Tryz.func188,Tryz.ntmps188;go_wp2
  go_ret3
  exact Or.inl ⟨rfl,rfl,rfl⟩
 ·have hb0:((len:Int)==0)=false:=by simp[h0]
  obtain⟨n,rfl⟩:∃n,len=n+1:=⟨len-1,by omega⟩;obtain⟨b,off,x,rfl,_,hbw,hx,hxs,hcell⟩:=h.cell n (by omega);have hT:∀w':World,w'.heap=w.heap→aT S w' (some ⟨b,off,none⟩) n (ss.take n):=fun w' e=>(h.take n (by omega)).kept (by rw[e];exact Nat.le_refl _) (fun _ _ _=>by rw[e]);have hm:=h.row.small;unfold maxLen at hm;have e1:IntKind.i64.wrap (n:Int)=(n:Int):=aag _ (by omega);have e2:(0:Int)≤(n:Int):=by omega
  have e3:(n:Int)≤(cap:Int):=by omega
  have e5:n≤cap:=by omega
  have e4:(n:Int)<(n:Int)+1:=by omega
  have E1:=acr hx;have E2:=acr hl;clear hx hl h hm hb0;have hb0:((n:Int)+1==0)=false:=by simp;omega
  go_enter Tryz.func188,Tryz.ntmps188;go_wp2
  go_region_held3 (fun w'=>w'.cell? ⟨b,off+n,none⟩=some (.string x)) (first|exact hcell|(rw[hb1.cell (p:=⟨b,off+n,none⟩) hbw];exact hcell)) ((first|(go_at_call 212;refine(Lx (S:=S) _ _ _ (ss.take n) _ (hT w.drew rfl) (by omega)).mono ?_;rintro e w1 ⟨a1,cap1,rfl,hca,hS1,hb1⟩)))
  go_wp2
  go_ret3
  have hl:=E2.o;have hlast:ss.getLast? =some x:=by
   rw[List.getLast?_eq_getElem?,hl];exact E1.o
  have hdl:ss.dropLast=ss.take n:=by rw[List.dropLast_eq_take,hl];rfl
  have hn1:ss.length-1=n:=by omega
  refine Or.inr ⟨a1,cap1,x,hlast,?_,?_,?_,⟨hb1.os,hb1.tape,hb1.output,hb1.size,hb1.block⟩⟩
  ·rw[hn1];rfl
  ·rw[hn1];exact hca
  ·rw[hn1,hdl];exact hS1
theorem FI(ls:List Nm):BJ (ls.map strOf)=ls:=by
 unfold BJ;rw[List.map_map];have:(fun s:ByteArray=>s.data.toList)∘strOf=id:=by funext l;simp[strOf]
 rw[this,List.map_id]
theorem PW(ls:List Nm):AY (ls.map strOf)=bH ls:=by
 have:∀l:Nm,CS (strOf l)= !bT l:=fun l=>by simp[CS,strOf]
 unfold AY bH;rw[List.any_map,List.length_map];have e:CS∘strOf=fun x=> !bT x:=by funext l;exact this l
 rw[e]
theorem dD{w:World}{i:Nat}{cs:Array Value}{t:TypeId}(h:w.heap[i]? =some (.cells cs t))(j:Nat):w.cell? ⟨i,j,none⟩=cs[j]? :=by simp[World.cell?,h]
def Tf(k kind:Int)(w:World)(e:Ending)(w':World):Prop:=
 e= .returned (ptr w.heap.size)∧jD (fun _=>False) w' k w.heap.size (w.heap.size+1) (cu kind)∧Below w.heap.size w w'∧w.heap.size<w'.heap.size∧(kind=2→w.heap.size+1<w'.heap.size)
theorem zY(k kind:Int)(w:World):Calls Tryz.prog 67 #[.int .i64 k,.int .i64 kind] w (Tf k kind w):=by
 have hmm:= @run_makeMap Tryz.prog;by_cases hk:kind=2
 ·subst hk;go_enter Tryz.func67,Tryz.ntmps67;go_wp2;go_ret;refine⟨rfl,⟨⟨none,0,?_,⟨Nat.le_refl _,Nat.zero_le _⟩,ah.nil _ _ _⟩,fun _=> ?_⟩,?_,?_,fun _=> ?_⟩
  ·rw[abr _ _ _ (by simp)];exact(MapKept.heap_alloc w _).1
  ·have:=MapAt.made (F:=iq) (w.alloc (.cells (ji k (cu 2) none 0 (w.heap.size+1)) 138));rw[Pe]at this;exact this
  ·exact(acv.alloc acu _).alloc (by simp) _
  ·simp;omega
  ·simp
 ·have hk':(kind==2)=false:=by simpa using hk
  go_enter Tryz.func67,Tryz.ntmps67;go_wp2;go_ret;refine⟨rfl,⟨⟨none,0,?_,⟨Nat.le_refl _,Nat.zero_le _⟩,ah.nil _ _ _⟩,fun h=>absurd h hk⟩,acv.alloc acu _,by simp,fun h=>absurd h hk⟩;have e1:ji k (cu kind) none 0 (w.heap.size+1)= #[.int .i64 k,.int .i64 kind,.int .i64 1,.int .i64 0,.int .u64 0,.bool false,.slice none 0 0,.map none]:=by
   simp[ji,cu,fu,hk]
  rw[e1];exact(MapKept.heap_alloc w _).1
def jR:List (List Nm)→Int
 |[]=>0
 |p::r=>if bH p≠0 then bH p else jR r
theorem CW:∀(nA:List (List Nm)) (k:Nat) (ls:List Nm),jR (nA.take k)=0→nA[k]? =some ls→bH ls≠0→jR nA=bH ls
 |p::r,0,ls,_,h,hn=>by
  simp only[aai,Pd]at h;subst h;rw[jR,if_pos hn]
 |p::r,k+1,ls,h,h2,hn=>by
  simp only[abn,jR]at h;by_cases hp:bH p≠0
  ·rw[if_pos hp]at h;exact absurd h hp
  ·rw[if_neg hp]at h;rw[jR,if_neg hp];exact CW r k ls h (by simpa using h2) hn
theorem yI:∀(nA:List (List Nm)) (k:Nat) (ls:List Nm),jR (nA.take k)=0→nA[k]? =some ls→bH ls=0→jR (nA.take (k+1))=0
 |p::r,0,ls,_,h,hn=>by
  simp only[aai,Pd]at h;subst h;simp[jR,hn]
 |p::r,k+1,ls,h,h2,hn=>by
  simp only[abn,jR]at h⊢;by_cases hp:bH p≠0
  ·rw[if_pos hp]at h;exact absurd h hp
  ·rw[if_neg hp]at h;rw[if_neg hp];exact yI r k ls h (by simpa using h2) hn
theorem PX{S:Nat→Prop}(B n:Nat)(nA:List (List Nm))(w:World)(hn:n=nA.length)(hn2:n≤2)(hB:B<w.heap.size)
  (hc:∀k,k<n→∃a l c ls,w.cell? ⟨B,k,none⟩=some (.slice a l c)∧aT S w a l (ls.map strOf)∧nA[k]? =some ls):
  Calls Tryz.prog 139 #[.slice (some ⟨B,0,none⟩) n n] w fun e w'=>e= .returned (.int .i64 (jR nA))∧Below w.heap.size w w':=by
 have HN:=acr hn;have HC:=acr hc;clear hn hc;go_enter Tryz.func139,Tryz.ntmps139;go_wp2
 go_loopw [8] (fun i wr=>∃k:Nat,k≤n∧i= .int .i64 k∧jR (nA.take k)=0∧Below w.heap.size w wr) (fun i _=>n-(intOf i).toNat)
 case atStart=>exact⟨0,by omega,rfl,rfl,Below.refl _ _⟩
 case round=>
  obtain⟨k,hk,rfl,ha,hb⟩:=hrel;have HA:=acr ha;clear ha;by_cases hlt:k<n
  ·obtain⟨a,l,c,ls,hcell,hS,hp⟩:=HC.o k hlt;have hcell':=(hb.cell (p:=⟨B,k,none⟩) hB).trans hcell;have hF:=I7 a l c (ls.map strOf) wr (hS.below hb acu);rw[PW]at hF;have HF:=acr hF;have HP:=acr hp;clear hp hF hS hcell;by_cases h0:bH ls=0
   ·have H0:=acr h0;clear h0;go_wp2_with fail;refine HF.o.mono ?_;rintro e w1 ⟨rfl,hb1⟩;rw[H0.o];go_wp2_with fail;go_roundw
    case rel=>exact⟨k+1,by omega,by go_num,yI _ _ _ HA.o HP.o H0.o,hb.trans (hb1.mono hb.size)⟩
    case measure=>simp[intOf];omega
   ·have H0:=acr h0;have hne:(bH ls==0)=false:=by simpa using h0
    have hne2:(bH ls !=0)=true:=by simpa using h0
    clear h0;go_wp2_with fail;refine HF.o.mono ?_;rintro e w1 ⟨rfl,hb1⟩;go_wp2_with fail;go_ret;exact⟨fI (CW _ _ _ HA.o HP.o H0.o).symm,hb.trans (hb1.mono hb.size)⟩
  ·go_wp2;go_ret;exact⟨fI (by have:=HA.o;rw[List.take_of_length_le (by have:=HN.o;omega)]at this;exact this.symm),hb⟩
theorem Tryz.dP(w:World):(zeroValue 102).run Tryz.prog w= .ok (.pointer none) w:=by kernel_rfl
theorem Tryz.kN(w:World):(zeroValue 3).run Tryz.prog w= .ok (.int .i64 0) w:=by kernel_rfl
theorem kD{k:Int}(h1:0≤k)(h2:k≤1000000):bK.ok k:=by
 simp[bK,Lit.wf,IntKind.min,IntKind.max,IntKind.signed,IntKind.bits];omega
theorem rV{a b:Int}{c d:Int}(h:(a,c)=(b,d)):Ending.returned (.tuple #[.int .i64 a,.int .i64 c])= .returned (.tuple #[.int .i64 b,.int .i64 d]):=by
 cases h;rfl
theorem CX{T:aA}{id:Int}{x:bJ}{ls:List Nm}{k:Nat}{n:Nm}{j:Int}(hx:aj id T=some x)(hk2:x.kind=2)(hn:ls[k]? =some n)(hj:aj n x.names=some j):aG T id (ls.drop k)=aG T j (ls.drop (k+1)):=by
 obtain⟨hk,e⟩:=aac.1 hn;rw[aaO hk,e,aG,hx];simp only[hk2,if_pos,hj]
theorem CY{T:aA}{id:Int}{x:bJ}{ls:List Nm}{k:Nat}{n:Nm}(hx:aj id T=some x)(hk2:x.kind≠2)(hn:ls[k]? =some n):aG T id (ls.drop k)=(0,23):=by
 obtain⟨hk,e⟩:=aac.1 hn;rw[aaO hk,e,aG,hx];simp only[if_neg hk2]
theorem CZ{T:aA}{id:Int}{x:bJ}{ls:List Nm}{k:Nat}{n:Nm}(hx:aj id T=some x)(hk2:x.kind=2)(hn:ls[k]? =some n)(hj:aj n x.names=none):aG T id (ls.drop k)=(0,20):=by
 obtain⟨hk,e⟩:=aac.1 hn;rw[aaO hk,e,aG,hx];simp only[hk2,if_pos,hj]
theorem C8{S:Nat→Prop}{g:Nat→Own}{D:Nat→Prop}{p mb:Nat}{ib nb:Int→Nat}{T:aA}(a:Option Addr)(n c:Nat)(ls:List Nm)(w:World)(h:aP g D w p mb ib nb T)(hT:OkW T)(hS:aT S w a n (ls.map strOf)):
  Calls Tryz.prog 149 #[ptr p,.slice a n c] w fun e w'=>e= .returned (.tuple #[.int .i64 (aG T 0 ls).1,.int .i64 (aG T 0 ls).2])∧w=w':=by
 have hln:ls.length=n:=by have:=hS.length;simpa using this
 have hnm:=hS.row.small;unfold maxLen at hnm;obtain⟨hc0,hpw,hmw⟩:=h.cell;have HH:=acr h;have HT:=acr hT;have HS:=acr hS;have HL:=acr hln;clear h hT hS hln;go_enter Tryz.func149,Tryz.ntmps149;go_wp2
 go_loop [6,14] (fun s i=>∃(k:Nat) (id:Int),k≤n∧i= .int .i64 k∧s= .int .i64 id∧(aj id T).isSome=true∧aG T id (ls.drop k)=aG T 0 ls) (fun _ i=>n-(intOf i).toNat)
 case atStart=>exact⟨0,0,by omega,rfl,rfl,fD HT.o,by simp⟩
 case round=>
  obtain⟨k,id,hk,rfl,rfl,hid,hlk⟩:=hrel;obtain⟨x,hx⟩:=aaf.1 hid;have qP:=acr hlk;have HX:=acr hx;clear hlk hid hx;have xD:=HT.o.ids id x HX.o;have hok:bK.ok id:=kD xD.1 (by omega);obtain⟨c0,c1,c2,c3,c4,c5,c7,hiw⟩:=(HH.o.item id x HX.o).cell;have hget:aj id (T.map fun q=>(q.1,ptr (ib q.1)))=some (ptr (ib id)):=by rw[eX,HX.o];rfl
  have HG:=acr hget;clear hget;have hmap:=acr HH.o.map;by_cases hlt:k<n
  ·obtain⟨b,off,s,rfl,_,hbw,hs,hsz,hcell⟩:=HS.o.cell k hlt;obtain⟨nm,hnm',rfl⟩:∃nm,ls[k]? =some nm∧strOf nm=s:=by
    rw[List.getElem?_map]at hs;cases hq:ls[k]? with
    |none=>rw[hq]at hs;cases hs
    |some nm=>rw[hq]at hs;exact⟨nm,rfl,by simpa using hs⟩
   have HN:=acr hnm';have GZ:iq.ok nm:=by show nm.length≤maxLen;rw[←fK];exact hsz
   clear hs hnm';by_cases hk2:x.kind=2
   ·have e2:fu x (nb id)= .map (some (nb id)):=if_pos hk2;rw[e2]at c7;rw[hk2]at c1;have mP:=acr ((HH.o.item id x HX.o).names hk2);cases hj:aj nm x.names with
    |none=>
     have hgn:aj nm (fA x)=none:=by rw[lJ,hj];rfl
     have SA:=acr hgn;have hfin:=acr (CZ HX.o hk2 HN.o hj);clear hgn hj e2 hk2;go_wp2_with (first|(at_lookup;refine dJ bK rfl _ _ 104 102 rfl Tryz.underlying104 (Tryz.dP _) rfl hmap.o id rfl hok ?_;rw[HG.o])|(at_lookup;refine bF iq rfl _ _ 136 3 rfl Tryz.underlying136 (Tryz.kN _) rfl mP.o nm rfl GZ ?_;rw[SA.o]))
     go_ret2
     exact⟨rV (by rw[←qP.o,hfin.o]),rfl⟩
    |some j=>
     have hgn:aj nm (fA x)=some (.int .i64 j):=by rw[lJ,hj];rfl
     have SA:=acr hgn;have hfin:=acr (CX HX.o hk2 HN.o hj);have HJ:=acr ((HT.o.leads id x HX.o _ (bM hj)).1);clear hgn hj e2 hk2;go_wp2_with (first|(at_lookup;refine dJ bK rfl _ _ 104 102 rfl Tryz.underlying104 (Tryz.dP _) rfl hmap.o id rfl hok ?_;rw[HG.o])|(at_lookup;refine bF iq rfl _ _ 136 3 rfl Tryz.underlying136 (Tryz.kN _) rfl mP.o nm rfl GZ ?_;rw[SA.o]))
     go_round
     case rel=>exact⟨k+1,j,by omega,by go_num,rfl,HJ.o,by rw[←hfin.o];exact qP.o⟩
     case measure=>simp[intOf];omega
   ·have e1:(x.kind==2)=false:=by simpa using hk2
    have hfin:=acr (CY HX.o hk2 HN.o);clear hk2 c7;go_wp2_with (first|(at_lookup;refine dJ bK rfl _ _ 104 102 rfl Tryz.underlying104 (Tryz.dP _) rfl hmap.o id rfl hok ?_;rw[HG.o]))
    go_ret2
    exact⟨rV (by rw[←qP.o,hfin.o]),rfl⟩
  ·clear c7;go_wp2
   go_ret2
   exact⟨rV (by rw[←qP.o,aaC (by have:=HL.o;omega)];rfl),rfl⟩
def yJ(T:aA)(ib:Int→Nat)(ls:List Nm)(w:World)(e:Ending)(w':World):Prop:=
 e= .returned (.tuple #[if (aH T ls).2.2=0 then ptr (ib (aH T ls).1)else .pointer none,.string (strOf (aH T ls).2.1),.int .i64 (aH T ls).2.2])∧Below w.heap.size w w'
theorem FJ{S:Nat→Prop}{g:Nat→Own}{D:Nat→Prop}{p mb:Nat}{ib nb:Int→Nat}{T:aA}(a:Option Addr)(n c:Nat)(ls:List Nm)(w:World)(h:aP g D w p mb ib nb T)(hT:dZ T)(hS:aT S w a n (ls.map strOf))(hc:n≤c)(mQ:n≤1000000):
  Calls Tryz.prog 140 #[ptr p,.slice a n c] w (yJ T ib ls w):=by
 have hln:ls.length=n:=by have:=hS.length;simpa using this
 have HH:=acr h;have HT:=acr hT;have HL:=acr hln;have hpar:=LA a n c (ls.map strOf) w hS (by omega) hc;have HP:=acr hpar;clear h hT hS hln hpar;by_cases hl0:ls=[]
 ·subst hl0;go_enter Tryz.func140,Tryz.ntmps140;go_wp2_with fail;refine HP.o.mono ?_;rintro e w1 (⟨_,rfl,rfl⟩|⟨_,_,x,hx,_⟩)
  ·go_wp2_with fail
   go_ret3
   exact⟨rfl,Below.refl _ _⟩
  ·cases hx
 ·have Xa:=acr hl0;clear hl0;go_enter Tryz.func140,Tryz.ntmps140;go_wp2_with fail;refine HP.o.mono ?_;rintro e w1 (⟨h0,_⟩|⟨gb,cap,x,hx,rfl,hca,hS1,hb1⟩)
  ·exact absurd (List.map_eq_nil_iff.1 h0) Xa.o
  ·have hdl:(ls.map strOf).dropLast=ls.dropLast.map strOf:=by simp[List.map_dropLast]
   rw[hdl]at hS1;have hxl:x=strOf (ls.getLastD []):=by
    rw[List.getLast?_map]at hx;cases hq:ls.getLast? with
    |none=>rw[hq]at hx;cases hx
    |some y=>
     rw[hq]at hx;simp only[aao,Pd]at hx;rw[←hx];cases ls with
     |nil=>cases hq
     |cons z r=>rw[ab0 (by simp)]at hq;simp only[Pd]at hq;rw[←hq,abM,ab0 (by simp)];rfl
   subst hxl;obtain⟨m,hm⟩:∃m,m=(ls.map strOf).length-1:=⟨_,rfl⟩;obtain⟨nl,hnl⟩:∃nl,nl=ls.getLastD []:=⟨_,rfl⟩;rw[←hm]at hS1 hca⊢;rw[←hnl]at hx⊢;have HNL:=acr hnl;clear hm hnl;have hb1s:=hb1.size;have hA1:=HH.o.below hb1 acu;have qP:=acr (C8 (some ⟨gb,0,none⟩) m cap ls.dropLast w1 hA1 HT.o hS1);have HA1:=acr hA1;have HB1:=acr hb1;clear hA1 hb1 hx hdl hS1 HP hca;obtain⟨hc0,hpw,hmw⟩:=HA1.o.cell;have hmap:=acr HA1.o.map;by_cases he:(aG T 0 ls.dropLast).2=0
   ·obtain⟨y,hy⟩:=aaf.1 (gq HT.o ls.dropLast 0 (fD HT.o) he);have HE:=acr he;obtain⟨d,hd⟩:∃d,d=(aG T 0 ls.dropLast).1:=⟨_,rfl⟩;rw[←hd]at hy qP;rw[he]at qP;have HD:=acr hd;have HY:=acr hy;clear hy he hd;have xD:=HT.o.ids d y HY.o;have hok:bK.ok d:=kD xD.1 (by omega);obtain⟨c0,c1,c2,c3,c4,c5,c7,hiw⟩:=(HA1.o.item d y HY.o).cell;have hget:aj d (T.map fun q=>(q.1,ptr (ib q.1)))=some (ptr (ib d)):=by rw[eX,HY.o];rfl
    have HG:=acr hget;have hkm:bI T (aG T 0 ls.dropLast).1=y.kind:=by rw[←HD.o];unfold bI;rw[HY.o]
    have HKM:=acr hkm;clear hget hkm c7;by_cases hk2:y.kind=2
    ·have hpl:aH T ls=(d,nl,0):=by
      unfold aH;rw[if_neg Xa.o,if_neg (by rw[HE.o];simp),if_pos (HKM.o.trans hk2),←HD.o,←HNL.o]
     have G5:=acr hpl;rw[hk2]at c1;clear hk2 hpl;go_wp2_with fail;refine qP.o.mono ?_;rintro e w2 ⟨rfl,rfl⟩;go_wp2_with (first|(at_lookup;refine dJ bK rfl _ _ 104 102 rfl Tryz.underlying104 (Tryz.dP _) rfl hmap.o d rfl hok ?_;rw[HG.o]))
     go_ret3
     exact⟨by rw[G5.o];rfl,HB1.o⟩
    ·have hpl:aH T ls=(0,[],23):=by
      unfold aH;rw[if_neg Xa.o,if_neg (by rw[HE.o];simp),if_neg (by rw[HKM.o];exact hk2)]
     have G5:=acr hpl;have e1:(y.kind==2)=false:=by simpa using hk2
     clear hk2 hpl;go_wp2_with fail;refine qP.o.mono ?_;rintro e w2 ⟨rfl,rfl⟩;go_wp2_with (first|(at_lookup;refine dJ bK rfl _ _ 104 102 rfl Tryz.underlying104 (Tryz.dP _) rfl hmap.o d rfl hok ?_;rw[HG.o]))
     go_ret3
     exact⟨by rw[G5.o];rfl,HB1.o⟩
   ·have hpl:aH T ls=(0,[],(aG T 0 ls.dropLast).2):=by
     unfold aH;rw[if_neg Xa.o,if_pos he]
    have hne:((aG T 0 ls.dropLast).2==0)=false:=by simpa using he
    have G5:=acr hpl;have HE:=acr he;generalize hgg:aG T 0 ls.dropLast=r at qP hne HE G5;have HGG:=acr hgg;clear hpl he hgg;go_wp2_with fail;refine qP.o.mono ?_;rintro e w2 ⟨rfl,rfl⟩;go_wp2_with fail
    go_ret3
    exact⟨by rw[G5.o,if_neg HE.o];rfl,HB1.o⟩
def Turn(g:Nat→Own)(D:Nat→Prop)(w:World)(p mb:Nat)(T':aA)(v:Value)(e:Ending)(w':World):Prop:=
 e= .returned v∧∃g' D' SB nb',aP g' D' w' p mb SB nb' T'∧(∀b,g' b≠ .none→g b≠ .none∨w.heap.size≤b)∧(∀b,D' b→D b∨w.heap.size≤b)∧Keeps (fun b=>g b≠ .none) w w'
theorem Turn.same{g:Nat→Own}{D:Nat→Prop}{w w':World}{p mb:Nat}{ib nb:Int→Nat}{T:aA}{v:Value}{e:Ending}(h:aP g D w p mb ib nb T)(hb:Below w.heap.size w w')(he:e= .returned v):Turn g D w p mb T v e w':=
 ⟨he,g,D,ib,nb,h.below hb acu,fun b h=> .inl h,fun b h=> .inl h,(Keeps.below hb).mono fun x hx hx'=>absurd hx (by omega)⟩
theorem jM{T:aA}{p:List Nm}(hT:dZ T)(h:(aH T p).2.2=0):∃x,aj (aH T p).1 T=some x∧x.kind=2∧(aH T p).2.1∈p:=by
 unfold aH at h⊢;by_cases h0:p=[]
 ·rw[if_pos h0]at h;cases h
 ·rw[if_neg h0]at h⊢;by_cases h1:(aG T 0 p.dropLast).2≠0
  ·rw[if_pos h1]at h;exact absurd h h1
  ·rw[if_neg h1]at h⊢;by_cases h2:bI T (aG T 0 p.dropLast).1=2
   ·rw[if_pos h2];obtain⟨x,hx,hk⟩:=gJ h2;refine⟨x,hx,hk,?_⟩;cases p with
    |nil=>exact absurd rfl h0
    |cons z r=>simp[abM,ab0]
   ·rw[if_neg h2]at h;cases h
theorem qh{p:List Nm}(h:bH p=0):∀n∈p,bT n=true:=by
 unfold bH at h;split at h
 ·cases h
 ·rename_i h1;intro n hn;have h2:(p.any fun x=> !bT x)=false:=by simpa only[Bool.not_eq_true]using h1
  have:=List.any_eq_false.1 h2 n hn;simpa using this
theorem wm{p:List Nm}(h:bH p=0):p.length≤8:=by
 unfold bH at h;split at h
 ·cases h
 ·split at h
  ·cases h
  ·omega
theorem yK(l:List UInt8)(h:bT l=true):l.length≤16:=by
 simp only[bT,aaW,aah]at h;exact h.1.1.2
theorem Tg(p:List Nm):jR [p]=bH p:=by
 unfold jR jR;by_cases h:bH p≠0
 ·rw[if_pos h]
 ·rw[if_neg h];omega
theorem qj{w:World}{v:Value}{t:TypeId}:(w.alloc (.cells #[v] t)).cell? ⟨w.heap.size,0,none⟩=some v:=by
 simp only[World.cell?,(MapKept.heap_alloc w _).1];rfl
theorem yL{w:World}{u v:Value}{t:TypeId}:(w.alloc (.cells #[u,v] t)).cell? ⟨w.heap.size,0,none⟩=some u∧(w.alloc (.cells #[u,v] t)).cell? ⟨w.heap.size,1,none⟩=some v:=by
 simp only[World.cell?,(MapKept.heap_alloc w _).1];exact⟨rfl,rfl⟩
theorem wall(w:World)(o:Obj):Below w.heap.size w (w.alloc o):=acv.alloc acu _
theorem C9{S:Nat→Prop}(a:Option Addr)(n c:Nat)(ls:List Nm)(w:World)(hS:aT S w a n (ls.map strOf)):
  Calls Tryz.prog 139 #[.slice (some ⟨w.heap.size,0,none⟩) 1 1] (w.alloc (.cells #[.slice a n c] 26)) fun e w'=>e= .returned (.int .i64 (bH ls))∧Below w.heap.size w w':=by
 refine(PX (S:=S) w.heap.size 1 [ls] _ rfl (by omega) (by simp) (fun k hk=> ?_)).mono ?_
 ·obtain rfl:k=0:=by omega
  exact⟨a,n,c,ls,qj,hS.below (wall w _) acu,rfl⟩
 ·rintro e w' ⟨rfl,hb⟩;rw[Tg];exact⟨rfl,(wall w _).trans (hb.mono (by simp))⟩
theorem EZ{w w':World}{b:Nat}(h:w.mapTurned w' b):Keeps (fun x=>x=b) w w':=Keeps.turned h
theorem dL{w w':World}{b:Nat}(h:w.mapTurned w' b)(x:Nat)(hx:x<w.heap.size)(hn:x≠b):w'.heap[x]? =w.heap[x]? :=(EZ h).block x hx hn
theorem iF{w w':World}{b:Nat}(h:w.mapTurned w' b):Keeps (fun x=>x=b) w w':=Keeps.turned h
theorem aP.names{g:Nat→Own}{D:Nat→Prop}{w w':World}{p mb:Nat}{ib nb:Int→Nat}{T:aA}(h:aP g D w p mb ib nb T){d:Int}{x:bJ}{l:List (Nm×Int)}(hx:aj d T=some x)(hk:x.kind=2)(hM:MapAt iq w' (nb d) (fA {x with names:=l}))(hT:w.mapTurned w' (nb d))(f:bJ→bJ)(hf:f x={x with names:=l}):
  aP g D w' p mb ib nb (Go.Proofs.YtjnhnlabpccgjaaGreatDoor.bC d f T):=by
 have hs:=jL hT;have hn:=h.nG d x hx hk;refine h.bC hx (by rw[hf]) (fun _ h=>h) (fun b hb=>⟨h.data b hb,by rw[hs];exact h.o_ b hb⟩) (by omega) (fun b hb h1 h2=>dL hT b hb (fun e=>h2 (by rw[e];exact hn))) ?_;have hb:∀b,b<w.heap.size→g b≠ .names d→w'.heap[b]? =w.heap[b]? :=fun b hb h2=>dL hT b hb (fun e=>h2 (by rw[e];exact hn));have hi:=h.item d x hx;have ti:=h.qg d x hx;obtain⟨a,c,h1,h2,h3⟩:=hi.cells;rw[hf];refine⟨⟨a,c,(hb _ (h.low _ (by rw[ti];simp)) (by rw[ti];simp)).trans h1,h2,h3.kept (by omega) fun b hD hbw=>hb b hbw (by rw[h.data b hD];simp)⟩,fun _=>hM⟩
theorem aP.set{g:Nat→Own}{D:Nat→Prop}{w w':World}{p mb:Nat}{ib nb:Int→Nat}{T:aA}(h:aP g D w p mb ib nb T){d id:Int}{x:bJ}{n:Nm}(hx:aj d T=some x)(hk:x.kind=2)(hM:MapAt iq w' (nb d) (b_ iq.lt n (.int .i64 id) (fA x)))(hT:w.mapTurned w' (nb d)):
  aP g D w' p mb ib nb (setName T d n id):=by
 refine h.names (l:=b_ bytesBefore n id x.names) hx hk ?_ hT _ rfl;have e:fA {x with names:=b_ bytesBefore n id x.names}=b_ iq.lt n (.int .i64 id) (fA x):=wh bytesBefore (fun(_:Nm) (i:Int)=>Value.int .i64 i) n id x.names;rw[e];exact hM
theorem aP.cut{g:Nat→Own}{D:Nat→Prop}{w w':World}{p mb:Nat}{ib nb:Int→Nat}{T:aA}(h:aP g D w p mb ib nb T){d:Int}{x:bJ}{n:Nm}(hx:aj d T=some x)(hk:x.kind=2)(hM:MapAt iq w' (nb d) (bP n (fA x)))(hT:w.mapTurned w' (nb d)):
  aP g D w' p mb ib nb (aK T d n):=by
 refine h.names (l:=bP n x.names) hx hk ?_ hT _ rfl;have e:fA {x with names:=bP n x.names}=bP n (fA x):=zU (fun(_:Nm) (i:Int)=>Value.int .i64 i) n x.names;rw[e];exact hM
theorem Ti{g:Nat→Own}{D:Nat→Prop}{w w3 w4:World}{p mb:Nat}{ib nb:Int→Nat}{T:aA}{f kind:Int}(h:aP g D w p mb ib nb T)(hf:aj f T=none)(hi:jD (fun _=>False) w3 f w.heap.size (w.heap.size+1) (cu kind))(hb:Below w.heap.size w w3)(hs:w.heap.size<w3.heap.size)(hs2:kind=2→w.heap.size+1<w3.heap.size)
  (hM:MapAt bK w4 mb (b_ bK.lt f (ptr w.heap.size) (T.map fun q=>(q.1,ptr (ib q.1)))))(hT:w3.mapTurned w4 mb):
  ∃g1 Zr Zt,aP g1 D w4 p mb Zr Zt (b_ iA f (cu kind) T)∧(∀b,g1 b≠ .none→g b≠ .none∨w.heap.size≤b)∧Keeps (fun b=>g b≠ .none) w w4∧∀j,j≠f→Zr j=ib j∧Zt j=nb j:=by
 have hsz:=jL hT;have hK:=iF hT;have hmw:=h.map.lt;refine⟨_,_,_,h.add (i:=w.heap.size) (n:=w.heap.size+1) (x:=cu kind) (k:=f) acu (by omega) (by omega) (by omega) (fun hk=>by have:=hs2 hk;omega) hf rfl hM (by omega) (fun b hbw hbm=>(hK.block b (by omega) hbm).trans (hb.block b hbw)) (hi.move (by omega) (hK.block _ hs (by omega)) (fun hk=>hK.block _ (hs2 hk) (by omega)) (fun _ h=>h.elim)),fun b hb1=> ?_,⟨hK.os.trans hb.os,hK.tape.trans hb.tape,hK.output.trans hb.output,by omega,fun b hbw hbg=>(hK.block b (by omega) (fun e=>hbg (by rw[e,h.jQ];simp))).trans (hb.block b hbw)⟩,fun j hj=>⟨by simp[hj],by simp[hj]⟩⟩;by_cases hbi:w.heap.size≤b
 ·exact .inr hbi
 ·simp only[if_neg (show ¬b=w.heap.size by omega),if_neg (show ¬(b=w.heap.size+1∧(cu kind).kind=2)by omega)]at hb1;exact .inl hb1
theorem Tj{g g1:Nat→Own}{w w2 w4 w5:World}{nd:Nat}(hb2:Below w.heap.size w w2)(hg1:∀b,g1 b≠ .none→g b≠ .none∨w2.drew.heap.size≤b)(hK4:Keeps (fun b=>g b≠ .none) w2.drew w4)(hT5:w4.mapTurned w5 nd)(hnd:g1 nd≠ .none):
  (∀b,g1 b≠ .none→g b≠ .none∨w.heap.size≤b)∧Keeps (fun b=>g b≠ .none) w w5:=by
 have hs:=hb2.size;have hK:=iF hT5;have h4:w2.heap.size≤w4.heap.size:=hK4.size;have h5:=hK.size;refine⟨fun b hb=>(hg1 b hb).imp id fun h=>aax hs h,hK.os.trans (hK4.os.trans hb2.os),hK.tape.trans (hK4.tape.trans hb2.tape),hK.output.trans (hK4.output.trans hb2.output),by omega,fun b hb hbg=> ?_⟩;have h6:b≠nd:=fun e=>by
  rcases hg1 b (by rw[e];exact hnd)with h|h
  ·exact hbg h
  ·have:w2.heap.size≤b:=h;omega
 exact(hK.block b (by omega) h6).trans ((hK4.block b (show b<w2.heap.size by omega) hbg).trans (hb2.block b hb))
theorem Xb{S:Nat→Prop}{g:Nat→Own}{D:Nat→Prop}{p mb:Nat}{ib nb:Int→Nat}{T:aA}(a:Option Addr)(n c:Nat)(ls:List Nm)(kind:Int)(w:World)(h:aP g D w p mb ib nb T)(hT:dZ T)(hS:aT S w a n (ls.map strOf))(hc:n≤c)(mQ:n≤1000000):
  Calls Tryz.prog 72 #[ptr p,.slice a n c,.int .i64 kind] w (Turn g D w p mb (bZ T ls kind).2 (.tuple #[.int .i64 (bZ T ls kind).1.1,.int .i64 (bZ T ls kind).1.2])):=by
 have HH:=acr h;have HT:=acr hT;have HS:=acr hS;have HF:=acr (C9 (S:=S) a n c ls w hS);clear h hT hS;by_cases hf:bH ls=0
 ·have E5:=acr hf;rw[hf]at HF;clear hf;by_cases hk:kind=1∨kind=2
  ·have HK:=acr hk;have G5:=acr (fun w1 (hb:Below w.heap.size w w1)=>FJ a n c ls w1 (HH.o.below hb acu) HT.o (HS.o.below hb acu) hc mQ);by_cases hp:(aH T ls).2.2=0
   ·obtain⟨x,hx,hxk,hnm⟩:=jM HT.o hp;have hgn:=qh E5.o _ hnm;have HPE:=acr hp;obtain⟨⟨d,nm,z⟩,hq⟩:∃q,q=aH T ls:=⟨_,rfl⟩;unfold yJ at G5;rw[←hq]at hp hx hnm hgn G5;obtain rfl:z=0:=hp;have HQ:=acr hq;have HX:=acr hx;have HG:=acr hgn;have Zu:=acr hxk;clear hq hx hgn hxk hnm;have xD:=HT.o.ids d x HX.o;have hlen:=HT.o.len;have GZ:iq.ok nm:=by
     have:=yK nm HG.o;show nm.length≤maxLen;unfold maxLen;omega
    have Zv:acs (∀k,(64≤T.length→k=4)→(T.length<64→k=0)→kS T ls kind=if (aj nm x.names).isSome then 21 else k):=fun k h4 h0=>by
     unfold kS;have e1:aU T d=x.names:=by unfold aU;rw[HX.o]
     rw[if_neg (by rw[E5.o];simp),if_neg (fun h=>h hk),←HQ.o,if_neg (by simp),e1];by_cases h64:64≤T.length
     ·rw[if_pos h64,h4 h64]
     ·rw[if_neg h64,h0 (by omega)]
    have C_:acs (∀w2,Below w.heap.size w w2→w2.cell? ⟨ib d,7,none⟩=some (.map (some (nb d)))∧MapAt iq w2 (nb d) (fA x)∧w2.cell? ⟨p,0,none⟩=some (.map (some mb))∧MapAt bK w2 mb (T.map fun q=>(q.1,ptr (ib q.1)))):=fun w2 hb=>by
     have h2:=HH.o.below hb acu;have hi:=h2.item d x HX.o;obtain⟨_,_,_,_,_,_,c7,_⟩:=hi.cell;unfold fu at c7;rw[if_pos Zu.o]at c7;exact⟨c7,hi.names Zu.o,h2.cell.1,h2.map⟩
    cases hj:aj nm x.names with
    |some j=>
     have hgn:aj nm (fA x)=some (.int .i64 j):=by rw[lJ,hj];rfl
     have SA:=acr hgn;have hm:bZ T ls kind=((0,21),T):=by
      have:kS T ls kind=21:=by rw[Zv.o (if 64≤T.length then 4 else 0) (fun h=>if_pos h) (fun h=>if_neg (by omega)),hj];rfl
      unfold bZ;rw[this];simp
     have HM:=acr hm;clear hm hj hgn;rcases hk with rfl|rfl
     all_goals
      go_enter Tryz.func72,acj;go_wp2_with fail;refine HF.o.mono ?_;rintro e w1 ⟨rfl,hb1⟩;have HB1:=acr hb1;clear hb1;go_wp2_with fail;refine(G5.o w1 HB1.o).mono ?_;rintro e w2 ⟨rfl,hb2⟩
      (first|rw[if_pos rfl]|rw[if_pos trivial])
      have HB2:=acr (HB1.o.trans (hb2.mono HB1.o.size));clear hb2;obtain⟨c7,mP,_,_⟩:=C_.o w2 HB2.o;have zN:=acr mP;clear mP;go_wp2_with (at_lookup;refine bF iq rfl _ _ 136 3 rfl Tryz.underlying136 (Tryz.kN _) rfl zN.o nm rfl GZ ?_;rw[SA.o])
      go_ret2
      rw[HM.o];exact Turn.same HH.o HB2.o rfl
    |none=>
     have hgn:aj nm (fA x)=none:=by rw[lJ,hj];rfl
     have SA:=acr hgn;have HJ:=acr hj;clear hgn hj;by_cases h64:64≤T.length
     ·have hm:bZ T ls kind=((0,4),T):=by
       have:kS T ls kind=4:=by rw[Zv.o 4 (fun _=>rfl) (fun h=>by omega),HJ.o];rfl
       unfold bZ;rw[this];simp
      have HM:=acr hm;have hd64:decide ((T.length:Int)<64)=false:=by simp;omega
      have hd65:decide ((64:Int)≤(T.length:Int))=true:=by simp;omega
      clear hm;rcases hk with rfl|rfl
      all_goals
       go_enter Tryz.func72,acj;go_wp2_with fail;refine HF.o.mono ?_;rintro e w1 ⟨rfl,hb1⟩;have HB1:=acr hb1;clear hb1;go_wp2_with fail;refine(G5.o w1 HB1.o).mono ?_;rintro e w2 ⟨rfl,hb2⟩
       (first|rw[if_pos rfl]|rw[if_pos trivial])
       have HB2:=acr (HB1.o.trans (hb2.mono HB1.o.size));clear hb2;obtain⟨c7,mP,c0,hmap⟩:=C_.o w2 HB2.o;have zN:=acr mP;have n_:=acr hmap;clear mP hmap;go_wp2_with (first|(at_lookup;refine bF iq rfl _ _ 136 3 rfl Tryz.underlying136 (Tryz.kN _) rfl zN.o nm rfl GZ ?_;rw[SA.o])|(at_len;refine lU bK rfl _ 104 102 rfl Tryz.underlying104 rfl n_.o ?_;rw[List.length_map]))
       go_ret2
       rw[HM.o];exact Turn.same HH.o HB2.o rfl
     ·have hm:bZ T ls kind=((CU T,0),vg T ls kind):=by
       have:kS T ls kind=0:=by rw[Zv.o 0 (fun h=>absurd h h64) (fun h=>rfl),HJ.o];rfl
       unfold bZ;rw[if_pos this]
      unfold vg at hm;rw[←HQ.o]at hm;obtain⟨f,hfE,hf1,hf2,hfn,hfs⟩:=HT.o.free;rw[hfE]at hm;have HM:=acr hm;have qW:=acr hfn;have HFS:=acr hfs;have hd64:decide ((T.length:Int)<64)=true:=by simp;omega
      have hd65:decide ((64:Int)≤(T.length:Int))=false:=by simp;omega
      have yM:d≠(f:Int):=fun e=>by have:=HX.o;rw[e,qW.o]at this;cases this
      have II:=acr yM;clear hm hfn hfs hfE yM;have hokf:bK.ok (f:Int):=kD (by omega) (by omega);have HK:=acr hk;rcases hk with rfl|rfl
      all_goals
       go_enter Tryz.func72,acj;go_wp2_with fail;refine HF.o.mono ?_;rintro e w1 ⟨rfl,hb1⟩;have HB1:=acr hb1;clear hb1;go_wp2_with fail;refine(G5.o w1 HB1.o).mono ?_;rintro e w2 ⟨rfl,hb2⟩
       (first|rw[if_pos rfl]|rw[if_pos trivial])
       have HB2:=acr (HB1.o.trans (hb2.mono HB1.o.size));clear hb2;obtain⟨c7,mP,c0,hmap⟩:=C_.o w2 HB2.o;have zN:=acr mP;have n_:=acr hmap;clear mP hmap;go_wp2_with (first|(at_lookup;refine bF iq rfl _ _ 136 3 rfl Tryz.underlying136 (Tryz.kN _) rfl zN.o nm rfl GZ ?_;rw[SA.o])|(at_len;refine lU bK rfl _ 104 102 rfl Tryz.underlying104 rfl n_.o ?_;rw[List.length_map]))
       go_loop [14] (fun s=>∃j:Nat,1≤j∧j≤f∧s= .int .i64 j) (fun s=>f-(intOf s).toNat)
       case atStart=>exact⟨1,by omega,by omega,rfl⟩
       case round=>
        obtain⟨j,hj1,hjf,rfl⟩:=hrel;have uP:bK.ok (j:Int):=kD (by omega) (by omega);by_cases hjf':j<f
        ·obtain⟨y,hy⟩:=aaf.1 (HFS.o j hj1 hjf');have Tk:acs (aj (j:Int) (T.map fun q=>(q.1,ptr (ib q.1)))=some (ptr (ib j))):=by rw[eX,hy];rfl
         clear hy;go_wp2_with (at_lookup;refine dJ bK rfl _ _ 104 102 rfl Tryz.underlying104 (Tryz.dP _) rfl n_.o (j:Int) rfl uP ?_;rw[Tk.o])
         go_round
         case rel=>exact⟨j+1,by omega,by omega,by go_num⟩
         case measure=>simp[intOf];omega
        ·obtain rfl:f=j:=by omega
         have Tk:acs (aj (f:Int) (T.map fun q=>(q.1,ptr (ib q.1)))=none):=by rw[eX,qW.o];rfl
         go_wp2_with (at_lookup;refine dJ bK rfl _ _ 104 102 rfl Tryz.underlying104 (Tryz.dP _) rfl n_.o (f:Int) rfl uP ?_;rw[Tk.o]);have HA2:=acr (HH.o.below HB2.o acu);have hpw:=HA2.o.cell.2.1;have hmw:=HA2.o.cell.2.2;have hpm:p≠mb:=fun e=>by have h1:=HH.o.qO;rw[e,HH.o.jQ]at h1;cases h1
         have hst:∀v w3,Below w2.drew.heap.size w2.drew w3→∃w4,(Instr.mapUpdate 104 (.map (some mb)) (.int .i64 (f:Int)) v).run Tryz.prog w3= .ok () w4∧MapAt bK w4 mb (b_ bK.lt (f:Int) v (T.map fun q=>(q.1,ptr (ib q.1))))∧w3.mapTurned w4 mb:=by
          intro v w3 hb3;have hm1:MapAt bK w3 mb (T.map fun q=>(q.1,ptr (ib q.1))):=n_.o.kept (hb3.block mb hmw);exact hm1.rT bK Tryz.underlying104 (by rw[List.length_map];unfold maxLen;omega) (f:Int) v hokf
         have HST:=acr hst;have HPM:=acr hpm;have hkeep:∀w3,Below w2.drew.heap.size w2.drew w3→w3.cell? ⟨p,0,none⟩=some (.map (some mb)):=fun w3 hb3=>(hb3.cell (p:=⟨p,0,none⟩) hpw).trans c0;have Tm:∀w3 w4,Below w2.drew.heap.size w2.drew w3→w3.mapTurned w4 mb→w4.cell? ⟨p,0,none⟩=some (.map (some mb)):=fun w3 w4 hb3 hT=>(aau (w:=w3) (w':=w4) (a:=⟨p,0,none⟩) (dL hT p (Nat.lt_of_lt_of_le hpw hb3.size) HPM.o)).trans ((hb3.cell (p:=⟨p,0,none⟩) hpw).trans c0);have iW:=acr hkeep;have HKP2:=acr Tm;have HFA:=acr (fun w=>zY (f:Int) 1 w);clear hst hpm hkeep Tm
         go_region_held3 (fun w'=>w'.cell? ⟨p,0,none⟩=some (.map (some mb))) (first|exact c0|exact iW.o _ hb3|exact HKP2.o _ _ hb3 kK) ((first|(go_at_call 67;refine(zY (f:Int) _ _).mono ?_;rintro e w3 ⟨rfl,hi3,hb3,hs3,hs4⟩)|(obtain⟨w4,FK,uX,kK⟩:=HST.o (ptr w2.heap.size) w3 hb3;rw[FK];go_simp)))
         have HI3:=acr hi3;have HB3:=acr hb3;have Bb:=acr hs3;have qM:=acr hs4;have nI:=acr uX;have IJ:=acr kK;clear hi3 hb3 hs3 hs4 uX kK FK;obtain⟨g1,Zr,Zt,La,hg1,hK4,hib⟩:=Ti (HA2.o.below acv.drew acu) qW.o HI3.o HB3.o Bb.o (by first|exact qM.o|exact fun _=>qM.o trivial) nI.o IJ.o;have hx4:∀kd,aj d (b_ iA (f:Int) (cu kd) T)=some x:=fun kd=>by rw[eO,if_neg II.o];exact HX.o
         obtain⟨_,_,_,_,_,_,c74,_⟩:=(La.item d x (hx4 _)).cell;have hnm4:=(La.item d x (hx4 _)).names Zu.o;unfold fu at c74;rw[if_pos Zu.o,(hib d II.o).1]at c74;obtain⟨nd,hnd⟩:∃nd,nd=Zt d:=⟨_,rfl⟩;rw[←hnd]at c74 hnm4;have HA4:=acr La;have G6:=acr hg1;have Bc:=acr hK4;have HX4:=acr hx4;have HNM4:=acr hnm4;have wu:=acr hnd;have HFW:acs ((fA x).length<maxLen):=by
          have h1:=HT.o.few HX.o;have h2:(fA x).length<maxLen:=by unfold fA maxLen;rw[List.length_map];omega
          exact h2
         clear La hg1 hK4 hx4 hnm4 hnd hib;go_wp2_with (at_mapUpdate;refine mK iq rfl _ _ _ 136 3 rfl Tryz.underlying136 rfl HNM4.o HFW.o nm (.int .i64 (f:Int)) rfl rfl GZ ?_;intro w5 Zw hT5)
         go_ret2
         rw[HM.o];have La:=HA4.o;have hnd:=wu.o;have hgn:g1 nd≠ .none:=by rw[hnd,La.nG d x (HX4.o _) Zu.o];simp
         obtain⟨e1,e2⟩:=Tj HB2.o G6.o Bc.o hT5 hgn;subst hnd;exact⟨rfl,g1,D,Zr,Zt,La.set (HX4.o _) Zu.o Zw hT5,e1,fun b h=> .inl h,e2⟩
   ·have hne:((aH T ls).2.2==0)=false:=by simpa using hp
    have hne2:((aH T ls).2.2 !=0)=true:=by simpa using hp
    have hm:bZ T ls kind=((0,(aH T ls).2.2),T):=by
     have:kS T ls kind=(aH T ls).2.2:=by unfold kS;rw[if_neg (by rw[E5.o];simp),if_neg (fun h=>h hk),if_pos hp]
     unfold bZ;rw[this,if_neg hp]
    have HM:=acr hm;have HP:=acr hp;unfold yJ at G5;generalize aH T ls=q at*;clear hm hp;rcases hk with rfl|rfl
    all_goals
     go_enter Tryz.func72,acj;go_wp2_with fail;refine HF.o.mono ?_;rintro e w1 ⟨rfl,hb1⟩;have HB1:=acr hb1;clear hb1;go_wp2_with fail;refine(G5.o w1 HB1.o).mono ?_;rintro e w2 ⟨rfl,hb2⟩;rw[if_neg HP.o];have HB2:=acr hb2;clear hb2;go_wp2_with fail
     go_ret2
     rw[HM.o];exact Turn.same HH.o (HB1.o.trans (HB2.o.mono HB1.o.size)) rfl
  ·have HK:=acr hk;have e1:(kind !=1)=true:=by simp;omega
   have e2:(kind !=2)=true:=by simp;omega
   have hm:bZ T ls kind=((0,30),T):=by
    have:kS T ls kind=30:=by unfold kS;rw[if_neg (by rw[E5.o];simp),if_pos HK.o]
    unfold bZ;rw[this];simp
   have HM:=acr hm;clear hm hk;go_enter Tryz.func72,acj;go_wp2_with fail;refine HF.o.mono ?_;rintro e w1 ⟨rfl,hb1⟩;go_wp2_with fail
   go_ret2
   rw[HM.o];exact Turn.same HH.o hb1 rfl
 ·have hm:bZ T ls kind=((0,bH ls),T):=by
   have:kS T ls kind=bH ls:=by unfold kS;rw[if_pos hf]
   unfold bZ;rw[this,if_neg hf]
  have hne:(bH ls==0)=false:=by simpa using hf
  have hne2:(bH ls !=0)=true:=by simpa using hf
  have HM:=acr hm;clear hm hf;go_enter Tryz.func72,acj;go_wp2_with fail;refine HF.o.mono ?_;rintro e w1 ⟨rfl,hb1⟩;go_wp2_with fail
  go_ret2
  rw[HM.o];exact Turn.same HH.o hb1 rfl
section
variable{g:Nat→Own}{D:Nat→Prop}{p mb:Nat}{ib nb:Int→Nat}{T:aA}
theorem jD.frozen{w:World}{k:Int}{i n:Nat}{x:bJ}(h:jD D w k i n x)(j:Nat):w.frozen? ⟨i,j,none⟩=false:=by
 obtain⟨⟨a,c,h1,_⟩,_⟩:=h;simp[World.frozen?,h1]
theorem jD.row{w:World}{k:Int}{i n:Nat}{x:bJ}(h:jD D w k i n x):∃a c,w.cell? ⟨i,6,none⟩=some (.slice a x.b.length c)∧ny x.b.length c∧ah D w a x.b.length (x.b.map bv)∧w.heap[i]? =some (.cells (ji k x a c n) 138 (0,0)):=by
 obtain⟨⟨a,c,h1,h2,h3⟩,_⟩:=h;exact⟨a,c,by simp only[World.cell?,h1];rfl,h2,h3,h1⟩
theorem aP.fields{w w':World}(h:aP g D w p mb ib nb T){k:Int}{x:bJ}(hx:aj k T=some x)(f:bJ→bJ)(hb:(f x).b=x.b)(hn:(f x).names=x.names)(hk:(f x).kind=x.kind)(hK:Keeps (fun b=>b=ib k) w w')(hs:w'.heap.size=w.heap.size)
  (hc:∀a c,w.heap[ib k]? =some (.cells (ji k x a c (nb k)) 138 (0,0))→w'.heap[ib k]? =some (.cells (ji k (f x) a c (nb k)) 138 (0,0))):aP g D w' p mb ib nb (Go.Proofs.YtjnhnlabpccgjaaGreatDoor.bC k f T):=by
 have ti:=h.qg k x hx;refine h.bC hx hk (fun _ h=>h) (fun b hb=>⟨h.data b hb,by rw[hs];exact h.o_ b hb⟩) (by omega) (fun b hbw h1 _=>hK.block b hbw (fun e=>h1 (by rw[e];exact ti))) ?_;obtain⟨⟨a,c,h1,h2,h3⟩,h4⟩:=h.item k x hx;refine⟨⟨a,c,hc a c h1,by rw[hb];exact h2,by rw[hb];exact h3.kept (by omega) fun b hD hbw=>hK.block b hbw (fun e=>by have:=h.data b hD;rw[e,ti]at this;cases this)⟩,fun hk2=> ?_⟩;have hk2':x.kind=2:=hk▸hk2;have e:fA (f x)=fA x:=by unfold fA;rw[hn]
 rw[e];have tn:=h.nG k x hx hk2';exact(h4 hk2').kept (hK.block _ (h.low _ (by rw[tn];simp)) (fun e=>by rw[e,ti]at tn;cases tn))
theorem Keeps.set2(w:World)(i j j':Nat)(v v':Value):Keeps (fun b=>b=i) w ((w.setCell ⟨i,j,none⟩ v).setCell ⟨i,j',none⟩ v'):=
 (Keeps.gI w ⟨i,j,none⟩ v).trans (Keeps.gI _ ⟨i,j',none⟩ v') (fun _ _ h=>h)
theorem Da(id:Int)(k:Int)(hk:dG T id=k)(hk0:k≠0)(w:World)(h:aP g D w p mb ib nb T)(hid:(Lit.int .i64 id).wf=true):
  Calls Tryz.prog 182 #[ptr p,.int .i64 id] w fun e w'=>e= .returned (.tuple #[.pointer none,.int .i64 k])∧w=w':=by
 obtain⟨hc0,hpw,hmw⟩:=h.cell;have hmap:=acr h.map;have hok:bK.ok id:=hid;unfold dG at hk;cases hx:aj id T with
 |none=>
  rw[hx]at hk;simp only at hk;subst hk;have HG:acs (aj id (T.map fun q=>(q.1,ptr (ib q.1)))=none):=by rw[eX,hx];rfl
  clear h hx hid hk0;go_enter Tryz.func182,Tryz.ntmps182;go_wp2_with (at_lookup;refine bF bK rfl _ _ 104 102 rfl Tryz.underlying104 (Tryz.dP _) rfl hmap.o id rfl hok ?_;rw[HG.o])
  go_ret2
  exact⟨rfl,rfl⟩
 |some x=>
  rw[hx]at hk;simp only at hk;by_cases hk2:x.kind=2
  ·rw[if_pos hk2]at hk;subst hk;have HG:acs (aj id (T.map fun q=>(q.1,ptr (ib q.1)))=some (ptr (ib id))):=by rw[eX,hx];rfl
   obtain⟨c0,c1,c2,c3,c4,c5,c7,hiw⟩:=(h.item id x hx).cell;rw[hk2]at c1;clear h hx hid hk0 c7 hk2;go_enter Tryz.func182,Tryz.ntmps182;go_wp2_with (at_lookup;refine bF bK rfl _ _ 104 102 rfl Tryz.underlying104 (Tryz.dP _) rfl hmap.o id rfl hok ?_;rw[HG.o])
   go_ret2
   exact⟨rfl,rfl⟩
  ·rw[if_neg hk2]at hk;exact absurd hk.symm hk0
theorem Ci(id:Int){x:bJ}(hx:aj id T=some x)(hk2:x.kind≠2)(w:World)(h:aP g D w p mb ib nb T)(hid:(Lit.int .i64 id).wf=true):
  Calls Tryz.prog 182 #[ptr p,.int .i64 id] w fun e w'=>e= .returned (.tuple #[ptr (ib id),.int .i64 0])∧w=w':=by
 obtain⟨hc0,hpw,hmw⟩:=h.cell;have hmap:=acr h.map;have hok:bK.ok id:=hid;have HG:acs (aj id (T.map fun q=>(q.1,ptr (ib q.1)))=some (ptr (ib id))):=by rw[eX,hx];rfl
 obtain⟨c0,c1,c2,c3,c4,c5,c7,hiw⟩:=(h.item id x hx).cell;have e1:(x.kind==2)=false:=by simpa using hk2
 clear h hx hid c7 hk2;go_enter Tryz.func182,Tryz.ntmps182;go_wp2_with (at_lookup;refine bF bK rfl _ _ 104 102 rfl Tryz.underlying104 (Tryz.dP _) rfl hmap.o id rfl hok ?_;rw[HG.o])
 go_ret2
 exact⟨rfl,rfl⟩
def kE(k:Int)(x:bJ):Value:= .agg #[.int .i64 k,.int .i64 x.kind,.int .i64 x.links,.int .i64 x.b.length,.int .u64 x.aF,.bool x.closed]
def jN(T:aA)(id:Int):Value:=match aj id T with
 |some x=>kE id x
 |none=> .agg #[.int .i64 0,.int .i64 0,.int .i64 0,.int .i64 0,.int .u64 0,.bool false]
theorem Tn(id:Int)(w:World)(h:aP g D w p mb ib nb T)(hid:(Lit.int .i64 id).wf=true):
  Calls Tryz.prog 143 #[ptr p,.int .i64 id] w fun e w'=>e= .returned (.tuple #[jN T id,.bool (aj id T).isSome])∧Below w.heap.size w w':=by
 obtain⟨hc0,hpw,hmw⟩:=h.cell;have hok:bK.ok id:=hid;have Tp:∀o,MapAt bK (w.alloc o) mb (T.map fun q=>(q.1,ptr (ib q.1))):=fun o=>h.map.kept ((wall w o).block mb hmw);have hmap:=acr Tp;unfold jN;cases hx:aj id T with
 |none=>
  have HG:acs (aj id (T.map fun q=>(q.1,ptr (ib q.1)))=none):=by rw[eX,hx];rfl
  clear h hx hid Tp;go_enter Tryz.func143,Tryz.ntmps143;go_wp2_with (at_lookup;refine bF bK rfl _ _ 104 102 rfl Tryz.underlying104 (Tryz.dP _) rfl (hmap.o _) id rfl hok ?_;rw[HG.o]);exact aaB (v:= .tuple #[.agg #[.int .i64 0,.int .i64 0,.int .i64 0,.int .i64 0,.int .u64 0,.bool false],.bool false]) (by simp[results,Tryz.results143,go_sem]) rfl ⟨rfl,wall w _⟩
 |some x=>
  have HG:acs (aj id (T.map fun q=>(q.1,ptr (ib q.1)))=some (ptr (ib id))):=by rw[eX,hx];rfl
  obtain⟨c0,c1,c2,c3,c4,c5,c7,hiw⟩:=(h.item id x hx).cell;clear h hx hid c7 Tp;unfold kE;go_enter Tryz.func143,Tryz.ntmps143;go_wp2_with (at_lookup;refine bF bK rfl _ _ 104 102 rfl Tryz.underlying104 (Tryz.dP _) rfl (hmap.o _) id rfl hok ?_;rw[HG.o]);exact aaB (v:= .tuple #[.agg #[.int .i64 id,.int .i64 x.kind,.int .i64 x.links,.int .i64 x.b.length,.int .u64 x.aF,.bool x.closed],.bool true]) (by simp[results,Tryz.results143,go_sem]) rfl ⟨rfl,wall w _⟩
end
end Go.Proofs.YtjnhnlabpccgjaaGreatDoor
