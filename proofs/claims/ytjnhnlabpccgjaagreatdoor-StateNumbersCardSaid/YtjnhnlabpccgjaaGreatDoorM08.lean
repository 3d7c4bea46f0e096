/- path -/
import Derived.Test.YtjnhnlabpccgjaaGreatDoorM06
import Derived.Test.YtjnhnlabpccgjaaGreatDoorM07
import Derived.BigQuiet
import Derived.Deep.QuietTactic
import Derived.Deep.RegionHeld3
import Derived.OwnWalk
import Derived.IntWalk
set_option maxRecDepth 100000
set_option maxHeartbeats 64000000
set_option linter.all false
namespace Go.Proofs.YtjnhnlabpccgjaaGreatDoor
open Go.ChangeShapes Go.WideShapes Go.ChangeAt Go.RowKit
def BK(ss:List ByteArray):List (List UInt8):=ss.map (fun s=>s.data.toList)
abbrev xB(B:Nat):Nat→Prop:=fun b=>B≤b
theorem I8{w:World}{base:Nat}{e:TypeId}{v:Value}{n:Nat}{ss:List ByteArray}(h:w.ownsRow base e 1 v n (ss.map .string))(hs:∀s∈ss,s.size≤maxLen):
  ∃a cap,v= .slice a n cap∧aK (xB base) w a n ss:=by
 have h0:=h;obtain⟨hl,h⟩:=h;rcases h with⟨rfl,rfl⟩|⟨g,cap,cur,rfl,hb,hh,hn,hm,hsz,ht⟩
 ·obtain rfl:ss=[]:=by simpa using hl
  exact⟨none,0,rfl,ah.nil _ _ _,by simp⟩
 ·refine⟨_,cap,rfl,⟨by simpa using hl,by omega,fun _=>⟨g,0,rfl,hb,(iA.1 hh).1,fun i hi=> ?_⟩⟩,hs⟩;rw[Nat.zero_add,h0.cellAt i (by omega)]
theorem zX{S:Nat→Prop}{w:World}{b off len:Nat}{ss:List ByteArray}(h:aK S w (some ⟨b,off,none⟩) len ss)(j:Nat)(hj:j<ss.length):
  w.cell? ⟨b,off+j,none⟩=some (.string (ss.getD j ByteArray.empty)):=by
 obtain⟨b',off',s,e,_,_,hs,_,hc⟩:=h.cell j (by have:=h.length;omega);simp only[aac,aaS,aaI]at e;obtain⟨rfl,rfl⟩:=e;rw[hc];simp[List.getD,hs]
def Wv(w:World)(n:Nat)(ss:List ByteArray)(e:Ending)(w':World):Prop:=
 ∃g cap,e= .returned (.slice (some ⟨g,0,none⟩) n cap)∧n≤cap∧aK (xB w.heap.size) w' (some ⟨g,0,none⟩) n ss∧Below w.heap.size w w'
theorem yL{w:World}{base:Nat}{e:TypeId}{v:Value}{n:Nat}{ss:List ByteArray}(h:w.ownsRow base e 1 v n (ss.map .string))(hs:∀s∈ss,s.size≤maxLen)(hv:v≠ .slice none 0 0):
  ∃g cap,v= .slice (some ⟨g,0,none⟩) n cap∧n≤cap∧aK (xB base) w (some ⟨g,0,none⟩) n ss:=by
 obtain⟨a,cap,rfl,hS⟩:=I8 h hs;obtain⟨_,h⟩:=h;rcases h with⟨h,_⟩|⟨g,cap',cur,h,_,_,h2,_⟩
 ·exact absurd h hv
 ·simp only[aar,abG]at h;obtain⟨rfl,rfl⟩:=h;exact⟨g,_,rfl,h2,hS⟩
theorem Ld{S:Nat→Prop}(ad:Addr)(len cap:Nat)(ss:List ByteArray)(w:World)(h:aK S w (some ad) len ss)(hsz:len*16≤140737488355328):
  Calls Tryz.prog 212 #[.slice (some ad) len cap] w (Wv w len ss):=by
 have hl:=h.length;by_cases h0:len=0
 ·subst h0;obtain rfl:ss=[]:=by simpa using hl
  refine(Tryz.slices_Clone_string_zero ad cap w).mono ?_;rintro e w' ⟨v,rfl,ho,hv,hb⟩;obtain⟨g,cap',rfl,hc,hS⟩:=yL (ss:=[]) (by simpa using ho) (by simp) hv;exact⟨g,cap',rfl,hc,hS,hb⟩
 ·obtain⟨b,off,e,_,_,_⟩:=h.row.at_ (by omega);simp only[aac]at e;subst e;refine(Tryz.slices_Clone_string b off len cap ss w (by omega) hsz (fun j hj=>zX h j hj)).mono ?_;rintro e w' ⟨v,rfl,ho,hv,hb⟩;rw[List.take_of_length_le (by omega)]at ho;obtain⟨g,cap',rfl,hc,hS⟩:=yL ho h.short hv;exact⟨g,cap',rfl,hc,hS,hb⟩
theorem aK.take{S:Nat→Prop}{w:World}{a:Option Addr}{len:Nat}{ss:List ByteArray}(h:aK S w a len ss)(k:Nat)(hk:k≤len):aK S w a k (ss.take k):=by
 have hl:=h.length;refine⟨⟨by simp;omega,Nat.le_trans hk h.row.small,fun h0=> ?_⟩,fun s hs=>h.short s (List.mem_of_mem_take hs)⟩;obtain⟨b,off,e,hS,hb,hc⟩:=h.row.at_ (by omega);refine⟨b,off,e,hS,hb,fun i hi=> ?_⟩;rw[hc i (by omega),aa9,aaC,if_pos hi]
def OM(w:World)(ss:List ByteArray)(e:Ending)(w':World):Prop:=
 (ss=[]∧e= .returned (.tuple #[.slice none 0 0,.string ⟨#[]⟩,.int .i64 1])∧w=w')∨
 ∃g cap x,ss.getLast? =some x∧e= .returned (.tuple #[.slice (some ⟨g,0,none⟩) (ss.length-1) cap,.string x,.int .i64 0])∧ss.length-1≤cap∧aK (xB w.heap.size) w' (some ⟨g,0,none⟩) (ss.length-1) ss.dropLast∧Below w.heap.size w w'
theorem Le{S:Nat→Prop}(a:Option Addr)(len cap:Nat)(ss:List ByteArray)(w:World)(h:aK S w a len ss)(hsz:len*16≤140737488355328)(hcap:len≤cap):
  Calls Tryz.prog 188 #[.slice a len cap] w (OM w ss):=by
 have hl:=h.length;by_cases h0:len=0
 ·subst h0;obtain rfl:ss=[]:=by simpa using hl
  go_enter Tryz.func188,Tryz.ntmps188;go_wp2
  go_ret3
  exact Or.inl ⟨rfl,rfl,rfl⟩
 ·have hb0:((len:Int)==0)=false:=by simp[h0]
  obtain⟨n,rfl⟩:∃n,len=n+1:=⟨len-1,by omega⟩;obtain⟨b,off,x,rfl,_,hbw,hx,hxs,hcell⟩:=h.cell n (by omega);have hT:∀w':World,w'.heap=w.heap→aK S w' (some ⟨b,off,none⟩) n (ss.take n):=fun w' e=>(h.take n (by omega)).kept (by rw[e];exact Nat.le_refl _) (fun _ _ _=>by rw[e]);have hm:=h.row.small;unfold maxLen at hm;have e1:IntKind.i64.wrap (n:Int)=(n:Int):=aak _ (by omega);have e2:(0:Int)≤(n:Int):=by omega
  have e3:(n:Int)≤(cap:Int):=by omega
  have e5:n≤cap:=by omega
  have e4:(n:Int)<(n:Int)+1:=by omega
  have E1:=acA hx;have E2:=acA hl;clear hx hl h hm hb0;have hb0:((n:Int)+1==0)=false:=by simp;omega
  go_enter Tryz.func188,Tryz.ntmps188;go_wp2
  go_region_held3 (fun w'=>w'.cell? ⟨b,off+n,none⟩=some (.string x)) (first|exact hcell|(rw[hb1.cell (p:=⟨b,off+n,none⟩) hbw];exact hcell)) ((first|(go_at_call 212;refine(Ld (S:=S) _ _ _ (ss.take n) _ (hT w.drew rfl) (by omega)).mono ?_;rintro e w1 ⟨a1,ZJ,rfl,hca,hS1,hb1⟩)))
  go_wp2
  go_ret3
  have hl:=E2.o;have hlast:ss.getLast? =some x:=by
   rw[List.getLast?_eq_getElem?,hl];exact E1.o
  have hdl:ss.dropLast=ss.take n:=by rw[List.dropLast_eq_take,hl];rfl
  have hn1:ss.length-1=n:=by omega
  refine Or.inr ⟨a1,ZJ,x,hlast,?_,?_,?_,⟨hb1.os,hb1.tape,hb1.output,hb1.size,hb1.block⟩⟩
  ·rw[hn1];rfl
  ·rw[hn1];exact hca
  ·rw[hn1,hdl];exact hS1
theorem Fa(ls:List Nm):BK (ls.map strOf)=ls:=by
 unfold BK;rw[List.map_map];have:(fun s:ByteArray=>s.data.toList)∘strOf=id:=by funext l;simp[strOf]
 rw[this,List.map_id]
theorem OO(ls:List Nm):AY (ls.map strOf)=bg ls:=by
 have:∀l:Nm,CG (strOf l)= !dO l:=fun l=>by simp[CG,strOf]
 unfold AY bg;rw[List.any_map,List.length_map];have e:CG∘strOf=fun x=> !dO x:=by funext l;exact this l
 rw[e]
theorem jS{w:World}{i:Nat}{cs:Array Value}{t:TypeId}(h:w.heap[i]? =some (.cells cs t))(j:Nat):w.cell? ⟨i,j,none⟩=cs[j]? :=by simp[World.cell?,h]
def R5(k kind:Int)(w:World)(e:Ending)(w':World):Prop:=
 e= .returned (ptr w.heap.size)∧kZ (fun _=>False) w' k w.heap.size (w.heap.size+1) (dh kind)∧Below w.heap.size w w'∧w.heap.size<w'.heap.size∧(kind=2→w.heap.size+1<w'.heap.size)
theorem zY(k kind:Int)(w:World):Calls Tryz.prog 67 #[.int .i64 k,.int .i64 kind] w (R5 k kind w):=by
 have hmm:= @run_makeMap Tryz.prog;by_cases hk:kind=2
 ·subst hk;go_enter Tryz.func67,Tryz.ntmps67;go_wp2;go_ret;refine⟨rfl,⟨⟨none,0,?_,⟨Nat.le_refl _,Nat.zero_le _⟩,ah.nil _ _ _⟩,fun _=> ?_⟩,?_,?_,fun _=> ?_⟩
  ·rw[abt _ _ _ (by simp)];exact(MapKept.heap_alloc w _).1
  ·have:=MapAt.made (F:=dZ) (w.alloc (.cells (kP k (dh 2) none 0 (w.heap.size+1)) 138));rw[aad]at this;exact this
  ·exact(acD.alloc acC _).alloc (by simp) _
  ·simp;omega
  ·simp
 ·have hk':(kind==2)=false:=by simpa using hk
  go_enter Tryz.func67,Tryz.ntmps67;go_wp2;go_ret;refine⟨rfl,⟨⟨none,0,?_,⟨Nat.le_refl _,Nat.zero_le _⟩,ah.nil _ _ _⟩,fun h=>absurd h hk⟩,acD.alloc acC _,by simp,fun h=>absurd h hk⟩;have e1:kP k (dh kind) none 0 (w.heap.size+1)= #[.int .i64 k,.int .i64 kind,.int .i64 1,.int .i64 0,.int .u64 0,.bool false,.slice none 0 0,.map none]:=by
   simp[kP,dh,eY,hk]
  rw[e1];exact(MapKept.heap_alloc w _).1
def jM:List (List Nm)→Int
 |[]=>0
 |p::r=>if bg p≠0 then bg p else jM r
theorem CO:∀(iW:List (List Nm)) (k:Nat) (ls:List Nm),jM (iW.take k)=0→iW[k]? =some ls→bg ls≠0→jM iW=bg ls
 |p::r,0,ls,_,h,hn=>by
  simp only[aao,aac]at h;subst h;rw[jM,if_pos hn]
 |p::r,k+1,ls,h,h2,hn=>by
  simp only[abo,jM]at h;by_cases hp:bg p≠0
  ·rw[if_pos hp]at h;exact absurd h hp
  ·rw[if_neg hp]at h;rw[jM,if_neg hp];exact CO r k ls h (by simpa using h2) hn
theorem yM:∀(iW:List (List Nm)) (k:Nat) (ls:List Nm),jM (iW.take k)=0→iW[k]? =some ls→bg ls=0→jM (iW.take (k+1))=0
 |p::r,0,ls,_,h,hn=>by
  simp only[aao,aac]at h;subst h;simp[jM,hn]
 |p::r,k+1,ls,h,h2,hn=>by
  simp only[abo,jM]at h⊢;by_cases hp:bg p≠0
  ·rw[if_pos hp]at h;exact absurd h hp
  ·rw[if_neg hp]at h;rw[if_neg hp];exact yM r k ls h (by simpa using h2) hn
theorem Fb{S:Nat→Prop}(B n:Nat)(iW:List (List Nm))(w:World)(hn:n=iW.length)(hn2:n≤2)(hB:B<w.heap.size)
  (hc:∀k,k<n→∃a l c ls,w.cell? ⟨B,k,none⟩=some (.slice a l c)∧aK S w a l (ls.map strOf)∧iW[k]? =some ls):
  Calls Tryz.prog 139 #[.slice (some ⟨B,0,none⟩) n n] w fun e w'=>e= .returned (.int .i64 (jM iW))∧Below w.heap.size w w':=by
 have HN:=acA hn;have HC:=acA hc;clear hn hc;go_enter Tryz.func139,Tryz.ntmps139;go_wp2
 go_loopw [8] (fun i wr=>∃k:Nat,k≤n∧i= .int .i64 k∧jM (iW.take k)=0∧Below w.heap.size w wr) (fun i _=>n-(intOf i).toNat)
 case atStart=>exact⟨0,by omega,rfl,rfl,Below.refl _ _⟩
 case round=>
  obtain⟨k,hk,rfl,ha,hb⟩:=hrel;have HA:=acA ha;clear ha;by_cases hlt:k<n
  ·obtain⟨a,l,c,ls,hcell,hS,hp⟩:=HC.o k hlt;have hcell':=(hb.cell (p:=⟨B,k,none⟩) hB).trans hcell;have hF:=IY a l c (ls.map strOf) wr (hS.below hb acC);rw[OO]at hF;have HF:=acA hF;have HP:=acA hp;clear hp hF hS hcell;by_cases h0:bg ls=0
   ·have H0:=acA h0;clear h0;go_wp2_with fail;refine HF.o.mono ?_;rintro e w1 ⟨rfl,hb1⟩;rw[H0.o];go_wp2_with fail;go_roundw
    case rel=>exact⟨k+1,by omega,by go_num,yM _ _ _ HA.o HP.o H0.o,hb.trans (hb1.mono hb.size)⟩
    case measure=>simp[intOf];omega
   ·have H0:=acA h0;have hne:(bg ls==0)=false:=by simpa using h0
    have hne2:(bg ls !=0)=true:=by simpa using h0
    clear h0;go_wp2_with fail;refine HF.o.mono ?_;rintro e w1 ⟨rfl,hb1⟩;go_wp2_with fail;go_ret;exact⟨dX (CO _ _ _ HA.o HP.o H0.o).symm,hb.trans (hb1.mono hb.size)⟩
  ·go_wp2;go_ret;exact⟨dX (by have:=HA.o;rw[List.take_of_length_le (by have:=HN.o;omega)]at this;exact this.symm),hb⟩
theorem Tryz.bF(w:World):(zeroValue 102).run Tryz.prog w= .ok (.pointer none) w:=by kernel_rfl
theorem Tryz.iY(w:World):(zeroValue 3).run Tryz.prog w= .ok (.int .i64 0) w:=by kernel_rfl
theorem jU{k:Int}(h1:0≤k)(h2:k≤1000000):bY.ok k:=by
 simp[bY,Lit.wf,IntKind.min,IntKind.max,IntKind.signed,IntKind.bits];omega
theorem sF{a b:Int}{c d:Int}(h:(a,c)=(b,d)):Ending.returned (.tuple #[.int .i64 a,.int .i64 c])= .returned (.tuple #[.int .i64 b,.int .i64 d]):=by
 cases h;rfl
theorem CP{T:aL}{id:Int}{x:bP}{ls:List Nm}{k:Nat}{n:Nm}{j:Int}(hx:aj id T=some x)(hk2:x.kind=2)(hn:ls[k]? =some n)(hj:aj n x.names=some j):aJ T id (ls.drop k)=aJ T j (ls.drop (k+1)):=by
 obtain⟨hk,e⟩:=aae.1 hn;rw[aa2 hk,e,aJ,hx];simp only[hk2,if_pos,hj]
theorem CQ{T:aL}{id:Int}{x:bP}{ls:List Nm}{k:Nat}{n:Nm}(hx:aj id T=some x)(hk2:x.kind≠2)(hn:ls[k]? =some n):aJ T id (ls.drop k)=(0,23):=by
 obtain⟨hk,e⟩:=aae.1 hn;rw[aa2 hk,e,aJ,hx];simp only[if_neg hk2]
theorem CS{T:aL}{id:Int}{x:bP}{ls:List Nm}{k:Nat}{n:Nm}(hx:aj id T=some x)(hk2:x.kind=2)(hn:ls[k]? =some n)(hj:aj n x.names=none):aJ T id (ls.drop k)=(0,20):=by
 obtain⟨hk,e⟩:=aae.1 hn;rw[aa2 hk,e,aJ,hx];simp only[hk2,if_pos,hj]
theorem sG{S:Nat→Prop}{g:Nat→Own}{D:Nat→Prop}{p mb:Nat}{ib nb:Int→Nat}{T:aL}(a:Option Addr)(n c:Nat)(ls:List Nm)(w:World)(h:aO g D w p mb ib nb T)(hT:dG T)(hS:aK S w a n (ls.map strOf)):
  Calls Tryz.prog 149 #[ptr p,.slice a n c] w fun e w'=>e= .returned (.tuple #[.int .i64 (aJ T 0 ls).1,.int .i64 (aJ T 0 ls).2])∧w=w':=by
 have hln:ls.length=n:=by have:=hS.length;simpa using this
 have hnm:=hS.row.small;unfold maxLen at hnm;obtain⟨hc0,hpw,hmw⟩:=h.cell;have HH:=acA h;have HT:=acA hT;have HS:=acA hS;have HL:=acA hln;clear h hT hS hln;go_enter Tryz.func149,Tryz.ntmps149;go_wp2
 go_loop [6,14] (fun s i=>∃(k:Nat) (id:Int),k≤n∧i= .int .i64 k∧s= .int .i64 id∧(aj id T).isSome=true∧aJ T id (ls.drop k)=aJ T 0 ls) (fun _ i=>n-(intOf i).toNat)
 case atStart=>exact⟨0,0,by omega,rfl,rfl,gu HT.o,by simp⟩
 case round=>
  obtain⟨k,id,hk,rfl,rfl,hid,hlk⟩:=hrel;obtain⟨x,hx⟩:=aaf.1 hid;have mg:=acA hlk;have HX:=acA hx;clear hlk hid hx;have rY:=HT.o.ids id x HX.o;have hok:bY.ok id:=jU rY.1 (by omega);obtain⟨c0,c1,c2,c3,c4,c5,c7,hiw⟩:=(HH.o.item id x HX.o).cell;have hget:aj id (T.map fun q=>(q.1,ptr (ib q.1)))=some (ptr (ib id)):=by rw[fG,HX.o];rfl
  have HG:=acA hget;clear hget;have hmap:=acA HH.o.map;by_cases hlt:k<n
  ·obtain⟨b,off,s,rfl,_,hbw,hs,hsz,hcell⟩:=HS.o.cell k hlt;obtain⟨nm,hnm',rfl⟩:∃nm,ls[k]? =some nm∧strOf nm=s:=by
    rw[List.getElem?_map]at hs;cases hq:ls[k]? with
    |none=>rw[hq]at hs;cases hs
    |some nm=>rw[hq]at hs;exact⟨nm,rfl,by simpa using hs⟩
   have HN:=acA hnm';have nH:dZ.ok nm:=by show nm.length≤maxLen;rw[←fu];exact hsz
   clear hs hnm';by_cases hk2:x.kind=2
   ·have e2:eY x (nb id)= .map (some (nb id)):=if_pos hk2;rw[e2]at c7;rw[hk2]at c1;have gy:=acA ((HH.o.item id x HX.o).names hk2);cases hj:aj nm x.names with
    |none=>
     have hgn:aj nm (bW x)=none:=by rw[fP,hj];rfl
     have I9:=acA hgn;have hfin:=acA (CS HX.o hk2 HN.o hj);clear hgn hj e2 hk2;go_wp2_with (first|(at_lookup;refine aY bY rfl _ _ 104 102 rfl Tryz.underlying104 (Tryz.bF _) rfl hmap.o id rfl hok ?_;rw[HG.o])|(at_lookup;refine aU dZ rfl _ _ 136 3 rfl aam (Tryz.iY _) rfl gy.o nm rfl nH ?_;rw[I9.o]))
     go_ret2
     exact⟨sF (by rw[←mg.o,hfin.o]),rfl⟩
    |some j=>
     have hgn:aj nm (bW x)=some (.int .i64 j):=by rw[fP,hj];rfl
     have I9:=acA hgn;have hfin:=acA (CP HX.o hk2 HN.o hj);have HJ:=acA ((HT.o.leads id x HX.o _ (dU hj)).1);clear hgn hj e2 hk2;go_wp2_with (first|(at_lookup;refine aY bY rfl _ _ 104 102 rfl Tryz.underlying104 (Tryz.bF _) rfl hmap.o id rfl hok ?_;rw[HG.o])|(at_lookup;refine aU dZ rfl _ _ 136 3 rfl aam (Tryz.iY _) rfl gy.o nm rfl nH ?_;rw[I9.o]))
     go_round
     case rel=>exact⟨k+1,j,by omega,by go_num,rfl,HJ.o,by rw[←hfin.o];exact mg.o⟩
     case measure=>simp[intOf];omega
   ·have e1:(x.kind==2)=false:=by simpa using hk2
    have hfin:=acA (CQ HX.o hk2 HN.o);clear hk2 c7;go_wp2_with (first|(at_lookup;refine aY bY rfl _ _ 104 102 rfl Tryz.underlying104 (Tryz.bF _) rfl hmap.o id rfl hok ?_;rw[HG.o]))
    go_ret2
    exact⟨sF (by rw[←mg.o,hfin.o]),rfl⟩
  ·clear c7;go_wp2
   go_ret2
   exact⟨sF (by rw[←mg.o,aaD (by have:=HL.o;omega)];rfl),rfl⟩
def qJ(T:aL)(ib:Int→Nat)(ls:List Nm)(w:World)(e:Ending)(w':World):Prop:=
 e= .returned (.tuple #[if (aH T ls).2.2=0 then ptr (ib (aH T ls).1)else .pointer none,.string (strOf (aH T ls).2.1),.int .i64 (aH T ls).2.2])∧Below w.heap.size w w'
theorem wF{S:Nat→Prop}{g:Nat→Own}{D:Nat→Prop}{p mb:Nat}{ib nb:Int→Nat}{T:aL}(a:Option Addr)(n c:Nat)(ls:List Nm)(w:World)(h:aO g D w p mb ib nb T)(hT:dG T)(hS:aK S w a n (ls.map strOf))(hc:n≤c)(lF:n≤1000000):
  Calls Tryz.prog 140 #[ptr p,.slice a n c] w (qJ T ib ls w):=by
 have hln:ls.length=n:=by have:=hS.length;simpa using this
 have HH:=acA h;have HT:=acA hT;have HL:=acA hln;have hpar:=Le a n c (ls.map strOf) w hS (by omega) hc;have HP:=acA hpar;clear h hT hS hln hpar;by_cases hl0:ls=[]
 ·subst hl0;go_enter Tryz.func140,Tryz.ntmps140;go_wp2_with fail;refine HP.o.mono ?_;rintro e w1 (⟨_,rfl,rfl⟩|⟨_,_,x,hx,_⟩)
  ·go_wp2_with fail
   go_ret3
   exact⟨rfl,Below.refl _ _⟩
  ·cases hx
 ·have Ww:=acA hl0;clear hl0;go_enter Tryz.func140,Tryz.ntmps140;go_wp2_with fail;refine HP.o.mono ?_;rintro e w1 (⟨h0,_⟩|⟨gb,cap,x,hx,rfl,hca,hS1,hb1⟩)
  ·exact absurd (List.map_eq_nil_iff.1 h0) Ww.o
  ·have hdl:(ls.map strOf).dropLast=ls.dropLast.map strOf:=by simp[List.map_dropLast]
   rw[hdl]at hS1;have hxl:x=strOf (ls.getLastD []):=by
    rw[List.getLast?_map]at hx;cases hq:ls.getLast? with
    |none=>rw[hq]at hx;cases hx
    |some y=>
     rw[hq]at hx;simp only[aat,aac]at hx;rw[←hx];cases ls with
     |nil=>cases hq
     |cons z r=>rw[ab3 (by simp)]at hq;simp only[aac]at hq;rw[←hq,abN,ab3 (by simp)];rfl
   subst hxl;obtain⟨m,hm⟩:∃m,m=(ls.map strOf).length-1:=⟨_,rfl⟩;obtain⟨nl,hnl⟩:∃nl,nl=ls.getLastD []:=⟨_,rfl⟩;rw[←hm]at hS1 hca⊢;rw[←hnl]at hx⊢;have R6:=acA hnl;clear hm hnl;have hb1s:=hb1.size;have hA1:=HH.o.below hb1 acC;have mg:=acA (sG (some ⟨gb,0,none⟩) m cap ls.dropLast w1 hA1 HT.o hS1);have HA1:=acA hA1;have HB1:=acA hb1;clear hA1 hb1 hx hdl hS1 HP hca;obtain⟨hc0,hpw,hmw⟩:=HA1.o.cell;have hmap:=acA HA1.o.map;by_cases he:(aJ T 0 ls.dropLast).2=0
   ·obtain⟨y,hy⟩:=aaf.1 (gL HT.o ls.dropLast 0 (gu HT.o) he);have HE:=acA he;obtain⟨d,hd⟩:∃d,d=(aJ T 0 ls.dropLast).1:=⟨_,rfl⟩;rw[←hd]at hy mg;rw[he]at mg;have HD:=acA hd;have HY:=acA hy;clear hy he hd;have rY:=HT.o.ids d y HY.o;have hok:bY.ok d:=jU rY.1 (by omega);obtain⟨c0,c1,c2,c3,c4,c5,c7,hiw⟩:=(HA1.o.item d y HY.o).cell;have hget:aj d (T.map fun q=>(q.1,ptr (ib q.1)))=some (ptr (ib d)):=by rw[fG,HY.o];rfl
    have HG:=acA hget;have hkm:dL T (aJ T 0 ls.dropLast).1=y.kind:=by rw[←HD.o];unfold dL;rw[HY.o]
    have HKM:=acA hkm;clear hget hkm c7;by_cases hk2:y.kind=2
    ·have hpl:aH T ls=(d,nl,0):=by
      unfold aH;rw[if_neg Ww.o,if_neg (by rw[HE.o];simp),if_pos (HKM.o.trans hk2),←HD.o,←R6.o]
     have wY:=acA hpl;rw[hk2]at c1;clear hk2 hpl;go_wp2_with fail;refine mg.o.mono ?_;rintro e w2 ⟨rfl,rfl⟩;go_wp2_with (first|(at_lookup;refine aY bY rfl _ _ 104 102 rfl Tryz.underlying104 (Tryz.bF _) rfl hmap.o d rfl hok ?_;rw[HG.o]))
     go_ret3
     exact⟨by rw[wY.o];rfl,HB1.o⟩
    ·have hpl:aH T ls=(0,[],23):=by
      unfold aH;rw[if_neg Ww.o,if_neg (by rw[HE.o];simp),if_neg (by rw[HKM.o];exact hk2)]
     have wY:=acA hpl;have e1:(y.kind==2)=false:=by simpa using hk2
     clear hk2 hpl;go_wp2_with fail;refine mg.o.mono ?_;rintro e w2 ⟨rfl,rfl⟩;go_wp2_with (first|(at_lookup;refine aY bY rfl _ _ 104 102 rfl Tryz.underlying104 (Tryz.bF _) rfl hmap.o d rfl hok ?_;rw[HG.o]))
     go_ret3
     exact⟨by rw[wY.o];rfl,HB1.o⟩
   ·have hpl:aH T ls=(0,[],(aJ T 0 ls.dropLast).2):=by
     unfold aH;rw[if_neg Ww.o,if_pos he]
    have hne:((aJ T 0 ls.dropLast).2==0)=false:=by simpa using he
    have wY:=acA hpl;have HE:=acA he;generalize hgg:aJ T 0 ls.dropLast=r at mg hne HE wY;have HGG:=acA hgg;clear hpl he hgg;go_wp2_with fail;refine mg.o.mono ?_;rintro e w2 ⟨rfl,rfl⟩;go_wp2_with fail
    go_ret3
    exact⟨by rw[wY.o,if_neg HE.o];rfl,HB1.o⟩
def Turn(g:Nat→Own)(D:Nat→Prop)(w:World)(p mb:Nat)(T':aL)(v:Value)(e:Ending)(w':World):Prop:=
 e= .returned v∧∃g' D' NG nb',aO g' D' w' p mb NG nb' T'∧(∀b,g' b≠ .none→g b≠ .none∨w.heap.size≤b)∧(∀b,D' b→D b∨w.heap.size≤b)∧Keeps (fun b=>g b≠ .none) w w'
theorem Turn.same{g:Nat→Own}{D:Nat→Prop}{w w':World}{p mb:Nat}{ib nb:Int→Nat}{T:aL}{v:Value}{e:Ending}(h:aO g D w p mb ib nb T)(hb:Below w.heap.size w w')(he:e= .returned v):Turn g D w p mb T v e w':=
 ⟨he,g,D,ib,nb,h.below hb acC,fun b h=> .inl h,fun b h=> .inl h,(Keeps.below hb).mono fun x hx hx'=>absurd hx (by omega)⟩
theorem je{T:aL}{p:List Nm}(hT:dG T)(h:(aH T p).2.2=0):∃x,aj (aH T p).1 T=some x∧x.kind=2∧(aH T p).2.1∈p:=by
 unfold aH at h⊢;by_cases h0:p=[]
 ·rw[if_pos h0]at h;cases h
 ·rw[if_neg h0]at h⊢;by_cases h1:(aJ T 0 p.dropLast).2≠0
  ·rw[if_pos h1]at h;exact absurd h h1
  ·rw[if_neg h1]at h⊢;by_cases h2:dL T (aJ T 0 p.dropLast).1=2
   ·rw[if_pos h2];obtain⟨x,hx,hk⟩:=mR h2;refine⟨x,hx,hk,?_⟩;cases p with
    |nil=>exact absurd rfl h0
    |cons z r=>simp[abN,ab3]
   ·rw[if_neg h2]at h;cases h
theorem jT{p:List Nm}(h:bg p=0):∀n∈p,dO n=true:=by
 unfold bg at h;split at h
 ·cases h
 ·rename_i h1;intro n hn;have h2:(p.any fun x=> !dO x)=false:=by simpa only[Bool.not_eq_true]using h1
  have:=List.any_eq_false.1 h2 n hn;simpa using this
theorem qy{p:List Nm}(h:bg p=0):p.length≤8:=by
 unfold bg at h;split at h
 ·cases h
 ·split at h
  ·cases h
  ·omega
theorem sH(l:List UInt8)(h:dO l=true):l.length≤16:=by
 simp only[dO,aaQ,aal]at h;exact h.1.1.2
theorem I_(p:List Nm):jM [p]=bg p:=by
 unfold jM jM;by_cases h:bg p≠0
 ·rw[if_pos h]
 ·rw[if_neg h];omega
theorem R7(p q:List Nm):jM [p,q]=kE p q:=by
 unfold jM kE;by_cases h:bg p≠0
 ·rw[if_pos h,if_pos h]
 ·rw[if_neg h,if_neg h,I_]
theorem mU{w:World}{v:Value}{t:TypeId}:(w.alloc (.cells #[v] t)).cell? ⟨w.heap.size,0,none⟩=some v:=by
 simp only[World.cell?,(MapKept.heap_alloc w _).1];rfl
theorem qc{w:World}{u v:Value}{t:TypeId}:(w.alloc (.cells #[u,v] t)).cell? ⟨w.heap.size,0,none⟩=some u∧(w.alloc (.cells #[u,v] t)).cell? ⟨w.heap.size,1,none⟩=some v:=by
 simp only[World.cell?,(MapKept.heap_alloc w _).1];exact⟨rfl,rfl⟩
theorem wall(w:World)(o:Obj):Below w.heap.size w (w.alloc o):=acD.alloc acC _
theorem yN{S:Nat→Prop}(a:Option Addr)(n c:Nat)(ls:List Nm)(w:World)(hS:aK S w a n (ls.map strOf)):
  Calls Tryz.prog 139 #[.slice (some ⟨w.heap.size,0,none⟩) 1 1] (w.alloc (.cells #[.slice a n c] 26)) fun e w'=>e= .returned (.int .i64 (bg ls))∧Below w.heap.size w w':=by
 refine(Fb (S:=S) w.heap.size 1 [ls] _ rfl (by omega) (by simp) (fun k hk=> ?_)).mono ?_
 ·obtain rfl:k=0:=by omega
  exact⟨a,n,c,ls,mU,hS.below (wall w _) acC,rfl⟩
 ·rintro e w' ⟨rfl,hb⟩;rw[I_];exact⟨rfl,(wall w _).trans (hb.mono (by simp))⟩
theorem Ja{S S':Nat→Prop}(a:Option Addr)(n c:Nat)(ls:List Nm)(a':Option Addr)(n' c':Nat)(ls':List Nm)(w:World)(hS:aK S w a n (ls.map strOf))(hS':aK S' w a' n' (ls'.map strOf)):
  Calls Tryz.prog 139 #[.slice (some ⟨w.heap.size,0,none⟩) 2 2] (w.alloc (.cells #[.slice a n c,.slice a' n' c'] 26)) fun e w'=>e= .returned (.int .i64 (kE ls ls'))∧Below w.heap.size w w':=by
 refine(Fb (S:=fun x=>S x∨S' x) w.heap.size 2 [ls,ls'] _ rfl (by omega) (by simp) (fun k hk=> ?_)).mono ?_
 ·rcases (show k=0∨k=1 by omega)with rfl|rfl
  ·exact⟨a,n,c,ls,qc.1,(hS.below (wall w _) acC).mono fun _=> .inl,rfl⟩
  ·exact⟨a',n',c',ls',qc.2,(hS'.below (wall w _) acC).mono fun _=> .inr,rfl⟩
 ·rintro e w' ⟨rfl,hb⟩;rw[R7];exact⟨rfl,(wall w _).trans (hb.mono (by simp))⟩
theorem EG{w w':World}{b:Nat}(h:w.mapTurned w' b):Keeps (fun x=>x=b) w w':=Keeps.turned h
theorem gB{w w':World}{b:Nat}(h:w.mapTurned w' b)(x:Nat)(hx:x<w.heap.size)(hn:x≠b):w'.heap[x]? =w.heap[x]? :=(EG h).block x hx hn
theorem fJ{w w':World}{b:Nat}(h:w.mapTurned w' b):Keeps (fun x=>x=b) w w':=Keeps.turned h
theorem aO.names{g:Nat→Own}{D:Nat→Prop}{w w':World}{p mb:Nat}{ib nb:Int→Nat}{T:aL}(h:aO g D w p mb ib nb T){d:Int}{x:bP}{l:List (Nm×Int)}(hx:aj d T=some x)(hk:x.kind=2)(hM:MapAt dZ w' (nb d) (bW {x with names:=l}))(hT:w.mapTurned w' (nb d))(f:bP→bP)(hf:f x={x with names:=l}):
  aO g D w' p mb ib nb (Go.Proofs.YtjnhnlabpccgjaaGreatDoor.bq d f T):=by
 have hs:=kY hT;have hn:=h.pI d x hx hk;refine h.bq hx (by rw[hf]) (fun _ h=>h) (fun b hb=>⟨h.data b hb,by rw[hs];exact h.rX b hb⟩) (by omega) (fun b hb h1 h2=>gB hT b hb (fun e=>h2 (by rw[e];exact hn))) ?_;have hb:∀b,b<w.heap.size→g b≠ .names d→w'.heap[b]? =w.heap[b]? :=fun b hb h2=>gB hT b hb (fun e=>h2 (by rw[e];exact hn));have hi:=h.item d x hx;have ti:=h.rG d x hx;obtain⟨a,c,h1,h2,h3⟩:=hi.cells;rw[hf];refine⟨⟨a,c,(hb _ (h.low _ (by rw[ti];simp)) (by rw[ti];simp)).trans h1,h2,h3.kept (by omega) fun b hD hbw=>hb b hbw (by rw[h.data b hD];simp)⟩,fun _=>hM⟩
theorem aO.set{g:Nat→Own}{D:Nat→Prop}{w w':World}{p mb:Nat}{ib nb:Int→Nat}{T:aL}(h:aO g D w p mb ib nb T){d id:Int}{x:bP}{n:Nm}(hx:aj d T=some x)(hk:x.kind=2)(hM:MapAt dZ w' (nb d) (dW dZ.lt n (.int .i64 id) (bW x)))(hT:w.mapTurned w' (nb d)):
  aO g D w' p mb ib nb (setName T d n id):=by
 refine h.names (l:=dW bytesBefore n id x.names) hx hk ?_ hT _ rfl;have e:bW {x with names:=dW bytesBefore n id x.names}=dW dZ.lt n (.int .i64 id) (bW x):=zT bytesBefore (fun(_:Nm) (i:Int)=>Value.int .i64 i) n id x.names;rw[e];exact hM
theorem aO.cut{g:Nat→Own}{D:Nat→Prop}{w w':World}{p mb:Nat}{ib nb:Int→Nat}{T:aL}(h:aO g D w p mb ib nb T){d:Int}{x:bP}{n:Nm}(hx:aj d T=some x)(hk:x.kind=2)(hM:MapAt dZ w' (nb d) (bS n (bW x)))(hT:w.mapTurned w' (nb d)):
  aO g D w' p mb ib nb (aG T d n):=by
 refine h.names (l:=bS n x.names) hx hk ?_ hT _ rfl;have e:bW {x with names:=bS n x.names}=bS n (bW x):=zS (fun(_:Nm) (i:Int)=>Value.int .i64 i) n x.names;rw[e];exact hM
theorem R8{g:Nat→Own}{D:Nat→Prop}{w w3 w4:World}{p mb:Nat}{ib nb:Int→Nat}{T:aL}{f kind:Int}(h:aO g D w p mb ib nb T)(hf:aj f T=none)(hi:kZ (fun _=>False) w3 f w.heap.size (w.heap.size+1) (dh kind))(hb:Below w.heap.size w w3)(hs:w.heap.size<w3.heap.size)(hs2:kind=2→w.heap.size+1<w3.heap.size)
  (hM:MapAt bY w4 mb (dW bY.lt f (ptr w.heap.size) (T.map fun q=>(q.1,ptr (ib q.1)))))(hT:w3.mapTurned w4 mb):
  ∃g1 YV YW,aO g1 D w4 p mb YV YW (dW lI f (dh kind) T)∧(∀b,g1 b≠ .none→g b≠ .none∨w.heap.size≤b)∧Keeps (fun b=>g b≠ .none) w w4∧∀j,j≠f→YV j=ib j∧YW j=nb j:=by
 have hsz:=kY hT;have hK:=fJ hT;have hmw:=h.map.lt;refine⟨_,_,_,h.add (i:=w.heap.size) (n:=w.heap.size+1) (x:=dh kind) (k:=f) acC (by omega) (by omega) (by omega) (fun hk=>by have:=hs2 hk;omega) hf rfl hM (by omega) (fun b hbw ZK=>(hK.block b (by omega) ZK).trans (hb.block b hbw)) (hi.move (by omega) (hK.block _ hs (by omega)) (fun hk=>hK.block _ (hs2 hk) (by omega)) (fun _ h=>h.elim)),fun b hb1=> ?_,⟨hK.os.trans hb.os,hK.tape.trans hb.tape,hK.output.trans hb.output,by omega,fun b hbw hbg=>(hK.block b (by omega) (fun e=>hbg (by rw[e,h.lW];simp))).trans (hb.block b hbw)⟩,fun j hj=>⟨by simp[hj],by simp[hj]⟩⟩;by_cases hbi:w.heap.size≤b
 ·exact .inr hbi
 ·simp only[if_neg (show ¬b=w.heap.size by omega),if_neg (show ¬(b=w.heap.size+1∧(dh kind).kind=2)by omega)]at hb1;exact .inl hb1
theorem R9{g g1:Nat→Own}{w w2 w4 w5:World}{nd:Nat}(hb2:Below w.heap.size w w2)(hg1:∀b,g1 b≠ .none→g b≠ .none∨w2.drew.heap.size≤b)(hK4:Keeps (fun b=>g b≠ .none) w2.drew w4)(Jb:w4.mapTurned w5 nd)(hnd:g1 nd≠ .none):
  (∀b,g1 b≠ .none→g b≠ .none∨w.heap.size≤b)∧Keeps (fun b=>g b≠ .none) w w5:=by
 have hs:=hb2.size;have hK:=fJ Jb;have h4:w2.heap.size≤w4.heap.size:=hK4.size;have h5:=hK.size;refine⟨fun b hb=>(hg1 b hb).imp id fun h=>Nat.le_trans hs h,hK.os.trans (hK4.os.trans hb2.os),hK.tape.trans (hK4.tape.trans hb2.tape),hK.output.trans (hK4.output.trans hb2.output),by omega,fun b hb hbg=> ?_⟩;have h6:b≠nd:=fun e=>by
  rcases hg1 b (by rw[e];exact hnd)with h|h
  ·exact hbg h
  ·have:w2.heap.size≤b:=h;omega
 exact(hK.block b (by omega) h6).trans ((hK4.block b (show b<w2.heap.size by omega) hbg).trans (hb2.block b hb))
theorem Wx{S:Nat→Prop}{g:Nat→Own}{D:Nat→Prop}{p mb:Nat}{ib nb:Int→Nat}{T:aL}(a:Option Addr)(n c:Nat)(ls:List Nm)(kind:Int)(w:World)(h:aO g D w p mb ib nb T)(hT:dG T)(hS:aK S w a n (ls.map strOf))(hc:n≤c)(lF:n≤1000000):
  Calls Tryz.prog 72 #[ptr p,.slice a n c,.int .i64 kind] w (Turn g D w p mb (b_ T ls kind).2 (.tuple #[.int .i64 (b_ T ls kind).1.1,.int .i64 (b_ T ls kind).1.2])):=by
 have HH:=acA h;have HT:=acA hT;have HS:=acA hS;have HF:=acA (yN (S:=S) a n c ls w hS);clear h hT hS;by_cases hf:bg ls=0
 ·have uS:=acA hf;rw[hf]at HF;clear hf;by_cases hk:kind=1∨kind=2
  ·have HK:=acA hk;have wY:=acA (fun w1 (hb:Below w.heap.size w w1)=>wF a n c ls w1 (HH.o.below hb acC) HT.o (HS.o.below hb acC) hc lF);by_cases hp:(aH T ls).2.2=0
   ·obtain⟨x,hx,hxk,hnm⟩:=je HT.o hp;have hgn:=jT uS.o _ hnm;have HPE:=acA hp;obtain⟨⟨d,nm,z⟩,hq⟩:∃q,q=aH T ls:=⟨_,rfl⟩;unfold qJ at wY;rw[←hq]at hp hx hnm hgn wY;obtain rfl:z=0:=hp;have HQ:=acA hq;have HX:=acA hx;have HG:=acA hgn;have Ba:=acA hxk;clear hq hx hgn hxk hnm;have rY:=HT.o.ids d x HX.o;have hlen:=HT.o.len;have nH:dZ.ok nm:=by
     have:=sH nm HG.o;show nm.length≤maxLen;unfold maxLen;omega
    have IC:acB (∀k,(64≤T.length→k=4)→(T.length<64→k=0)→lU T ls kind=if (aj nm x.names).isSome then 21 else k):=fun k h4 h0=>by
     unfold lU;have e1:bJ T d=x.names:=by unfold bJ;rw[HX.o]
     rw[if_neg (by rw[uS.o];simp),if_neg (fun h=>h hk),←HQ.o,if_neg (by simp),e1];by_cases h64:64≤T.length
     ·rw[if_pos h64,h4 h64]
     ·rw[if_neg h64,h0 (by omega)]
    have vF:acB (∀w2,Below w.heap.size w w2→w2.cell? ⟨ib d,7,none⟩=some (.map (some (nb d)))∧MapAt dZ w2 (nb d) (bW x)∧w2.cell? ⟨p,0,none⟩=some (.map (some mb))∧MapAt bY w2 mb (T.map fun q=>(q.1,ptr (ib q.1)))):=fun w2 hb=>by
     have h2:=HH.o.below hb acC;have hi:=h2.item d x HX.o;obtain⟨_,_,_,_,_,_,c7,_⟩:=hi.cell;unfold eY at c7;rw[if_pos Ba.o]at c7;exact⟨c7,hi.names Ba.o,h2.cell.1,h2.map⟩
    cases hj:aj nm x.names with
    |some j=>
     have hgn:aj nm (bW x)=some (.int .i64 j):=by rw[fP,hj];rfl
     have I9:=acA hgn;have hm:b_ T ls kind=((0,21),T):=by
      have:lU T ls kind=21:=by rw[IC.o (if 64≤T.length then 4 else 0) (fun h=>if_pos h) (fun h=>if_neg (by omega)),hj];rfl
      unfold b_;rw[this];simp
     have HM:=acA hm;clear hm hj hgn;rcases hk with rfl|rfl
     all_goals
      go_enter Tryz.func72,acu;go_wp2_with fail;refine HF.o.mono ?_;rintro e w1 ⟨rfl,hb1⟩;have HB1:=acA hb1;clear hb1;go_wp2_with fail;refine(wY.o w1 HB1.o).mono ?_;rintro e w2 ⟨rfl,hb2⟩
      (first|rw[if_pos rfl]|rw[if_pos trivial])
      have HB2:=acA (HB1.o.trans (hb2.mono HB1.o.size));clear hb2;obtain⟨c7,gy,_,_⟩:=vF.o w2 HB2.o;have zZ:=acA gy;clear gy;go_wp2_with (at_lookup;refine aU dZ rfl _ _ 136 3 rfl aam (Tryz.iY _) rfl zZ.o nm rfl nH ?_;rw[I9.o])
      go_ret2
      rw[HM.o];exact Turn.same HH.o HB2.o rfl
    |none=>
     have hgn:aj nm (bW x)=none:=by rw[fP,hj];rfl
     have I9:=acA hgn;have HJ:=acA hj;clear hgn hj;by_cases h64:64≤T.length
     ·have hm:b_ T ls kind=((0,4),T):=by
       have:lU T ls kind=4:=by rw[IC.o 4 (fun _=>rfl) (fun h=>by omega),HJ.o];rfl
       unfold b_;rw[this];simp
      have HM:=acA hm;have ZL:decide ((T.length:Int)<64)=false:=by simp;omega
      have hd65:decide ((64:Int)≤(T.length:Int))=true:=by simp;omega
      clear hm;rcases hk with rfl|rfl
      all_goals
       go_enter Tryz.func72,acu;go_wp2_with fail;refine HF.o.mono ?_;rintro e w1 ⟨rfl,hb1⟩;have HB1:=acA hb1;clear hb1;go_wp2_with fail;refine(wY.o w1 HB1.o).mono ?_;rintro e w2 ⟨rfl,hb2⟩
       (first|rw[if_pos rfl]|rw[if_pos trivial])
       have HB2:=acA (HB1.o.trans (hb2.mono HB1.o.size));clear hb2;obtain⟨c7,gy,c0,hmap⟩:=vF.o w2 HB2.o;have zZ:=acA gy;have jX:=acA hmap;clear gy hmap;go_wp2_with (first|(at_lookup;refine aU dZ rfl _ _ 136 3 rfl aam (Tryz.iY _) rfl zZ.o nm rfl nH ?_;rw[I9.o])|(at_len;refine m_ bY rfl _ 104 102 rfl Tryz.underlying104 rfl jX.o ?_;rw[List.length_map]))
       go_ret2
       rw[HM.o];exact Turn.same HH.o HB2.o rfl
     ·have hm:b_ T ls kind=((CJ T,0),vD T ls kind):=by
       have:lU T ls kind=0:=by rw[IC.o 0 (fun h=>absurd h h64) (fun h=>rfl),HJ.o];rfl
       unfold b_;rw[if_pos this]
      unfold vD at hm;rw[←HQ.o]at hm;obtain⟨f,hfE,hf1,hf2,hfn,hfs⟩:=HT.o.free;rw[hfE]at hm;have HM:=acA hm;have YX:=acA hfn;have HFS:=acA hfs;have ZL:decide ((T.length:Int)<64)=true:=by simp;omega
      have hd65:decide ((64:Int)≤(T.length:Int))=false:=by simp;omega
      have qz:d≠(f:Int):=fun e=>by have:=HX.o;rw[e,YX.o]at this;cases this
      have Fe:=acA qz;clear hm hfn hfs hfE qz;have hokf:bY.ok (f:Int):=jU (by omega) (by omega);have HK:=acA hk;rcases hk with rfl|rfl
      all_goals
       go_enter Tryz.func72,acu;go_wp2_with fail;refine HF.o.mono ?_;rintro e w1 ⟨rfl,hb1⟩;have HB1:=acA hb1;clear hb1;go_wp2_with fail;refine(wY.o w1 HB1.o).mono ?_;rintro e w2 ⟨rfl,hb2⟩
       (first|rw[if_pos rfl]|rw[if_pos trivial])
       have HB2:=acA (HB1.o.trans (hb2.mono HB1.o.size));clear hb2;obtain⟨c7,gy,c0,hmap⟩:=vF.o w2 HB2.o;have zZ:=acA gy;have jX:=acA hmap;clear gy hmap;go_wp2_with (first|(at_lookup;refine aU dZ rfl _ _ 136 3 rfl aam (Tryz.iY _) rfl zZ.o nm rfl nH ?_;rw[I9.o])|(at_len;refine m_ bY rfl _ 104 102 rfl Tryz.underlying104 rfl jX.o ?_;rw[List.length_map]))
       go_loop [14] (fun s=>∃j:Nat,1≤j∧j≤f∧s= .int .i64 j) (fun s=>f-(intOf s).toNat)
       case atStart=>exact⟨1,by omega,by omega,rfl⟩
       case round=>
        obtain⟨j,hj1,hjf,rfl⟩:=hrel;have hokj:bY.ok (j:Int):=jU (by omega) (by omega);by_cases hjf':j<f
        ·obtain⟨y,hy⟩:=aaf.1 (HFS.o j hj1 hjf');have Bb:acB (aj (j:Int) (T.map fun q=>(q.1,ptr (ib q.1)))=some (ptr (ib j))):=by rw[fG,hy];rfl
         clear hy;go_wp2_with (at_lookup;refine aY bY rfl _ _ 104 102 rfl Tryz.underlying104 (Tryz.bF _) rfl jX.o (j:Int) rfl hokj ?_;rw[Bb.o])
         go_round
         case rel=>exact⟨j+1,by omega,by omega,by go_num⟩
         case measure=>simp[intOf];omega
        ·obtain rfl:f=j:=by omega
         have Bb:acB (aj (f:Int) (T.map fun q=>(q.1,ptr (ib q.1)))=none):=by rw[fG,YX.o];rfl
         go_wp2_with (at_lookup;refine aY bY rfl _ _ 104 102 rfl Tryz.underlying104 (Tryz.bF _) rfl jX.o (f:Int) rfl hokj ?_;rw[Bb.o]);have HA2:=acA (HH.o.below HB2.o acC);have hpw:=HA2.o.cell.2.1;have hmw:=HA2.o.cell.2.2;have hpm:p≠mb:=fun e=>by have h1:=HH.o.uR;rw[e,HH.o.lW]at h1;cases h1
         have hst:∀v w3,Below w2.drew.heap.size w2.drew w3→∃w4,(Instr.mapUpdate 104 (.map (some mb)) (.int .i64 (f:Int)) v).run Tryz.prog w3= .ok () w4∧MapAt bY w4 mb (dW bY.lt (f:Int) v (T.map fun q=>(q.1,ptr (ib q.1))))∧w3.mapTurned w4 mb:=by
          intro v w3 hb3;have hm1:MapAt bY w3 mb (T.map fun q=>(q.1,ptr (ib q.1))):=jX.o.kept (hb3.block mb hmw);exact hm1.zP bY Tryz.underlying104 (by rw[List.length_map];unfold maxLen;omega) (f:Int) v hokf
         have HST:=acA hst;have HPM:=acA hpm;have hkeep:∀w3,Below w2.drew.heap.size w2.drew w3→w3.cell? ⟨p,0,none⟩=some (.map (some mb)):=fun w3 hb3=>(hb3.cell (p:=⟨p,0,none⟩) hpw).trans c0;have R_:∀w3 w4,Below w2.drew.heap.size w2.drew w3→w3.mapTurned w4 mb→w4.cell? ⟨p,0,none⟩=some (.map (some mb)):=fun w3 w4 hb3 hT=>(Pe (w:=w3) (w':=w4) (a:=⟨p,0,none⟩) (gB hT p (Pd hpw hb3.size) HPM.o)).trans ((hb3.cell (p:=⟨p,0,none⟩) hpw).trans c0);have ji:=acA hkeep;have HKP2:=acA R_;have HFA:=acA (fun w=>zY (f:Int) 1 w);clear hst hpm hkeep R_
         go_region_held3 (fun w'=>w'.cell? ⟨p,0,none⟩=some (.map (some mb))) (first|exact c0|exact ji.o _ hb3|exact HKP2.o _ _ hb3 kV) ((first|(go_at_call 67;refine(zY (f:Int) _ _).mono ?_;rintro e w3 ⟨rfl,hi3,hb3,hs3,hs4⟩)|(obtain⟨w4,Fg,xC,kV⟩:=HST.o (ptr w2.heap.size) w3 hb3;rw[Fg];go_simp)))
         have HI3:=acA hi3;have HB3:=acA hb3;have IE:=acA hs3;have jk:=acA hs4;have z_:=acA xC;have wG:=acA kV;clear hi3 hb3 hs3 hs4 xC kV Fg;obtain⟨g1,YV,YW,Lf,hg1,hK4,hib⟩:=R8 (HA2.o.below acD.drew acC) YX.o HI3.o HB3.o IE.o (by first|exact jk.o|exact fun _=>jk.o trivial) z_.o wG.o;have hx4:∀kd,aj d (dW lI (f:Int) (dh kd) T)=some x:=fun kd=>by rw[h_,if_neg Fe.o];exact HX.o
         obtain⟨_,_,_,_,_,_,c74,_⟩:=(Lf.item d x (hx4 _)).cell;have ZM:=(Lf.item d x (hx4 _)).names Ba.o;unfold eY at c74;rw[if_pos Ba.o,(hib d Fe.o).1]at c74;obtain⟨nd,hnd⟩:∃nd,nd=YW d:=⟨_,rfl⟩;rw[←hnd]at c74 ZM;have HA4:=acA Lf;have Gs:=acA hg1;have tK:=acA hK4;have HX4:=acA hx4;have HNM4:=acA ZM;have uT:=acA hnd;have ZN:acB ((bW x).length<maxLen):=by
          have h1:=HT.o.few HX.o;have h2:(bW x).length<maxLen:=by unfold bW maxLen;rw[List.length_map];omega
          exact h2
         clear Lf hg1 hK4 hx4 ZM hnd hib;go_wp2_with (at_mapUpdate;refine pY dZ rfl _ _ _ 136 3 rfl aam rfl HNM4.o ZN.o nm (.int .i64 (f:Int)) rfl rfl nH ?_;intro w5 YZ Jb)
         go_ret2
         rw[HM.o];have Lf:=HA4.o;have hnd:=uT.o;have hgn:g1 nd≠ .none:=by rw[hnd,Lf.pI d x (HX4.o _) Ba.o];simp
         obtain⟨e1,e2⟩:=R9 HB2.o Gs.o tK.o Jb hgn;subst hnd;exact⟨rfl,g1,D,YV,YW,Lf.set (HX4.o _) Ba.o YZ Jb,e1,fun b h=> .inl h,e2⟩
   ·have hne:((aH T ls).2.2==0)=false:=by simpa using hp
    have hne2:((aH T ls).2.2 !=0)=true:=by simpa using hp
    have hm:b_ T ls kind=((0,(aH T ls).2.2),T):=by
     have:lU T ls kind=(aH T ls).2.2:=by unfold lU;rw[if_neg (by rw[uS.o];simp),if_neg (fun h=>h hk),if_pos hp]
     unfold b_;rw[this,if_neg hp]
    have HM:=acA hm;have HP:=acA hp;unfold qJ at wY;generalize aH T ls=q at*;clear hm hp;rcases hk with rfl|rfl
    all_goals
     go_enter Tryz.func72,acu;go_wp2_with fail;refine HF.o.mono ?_;rintro e w1 ⟨rfl,hb1⟩;have HB1:=acA hb1;clear hb1;go_wp2_with fail;refine(wY.o w1 HB1.o).mono ?_;rintro e w2 ⟨rfl,hb2⟩;rw[if_neg HP.o];have HB2:=acA hb2;clear hb2;go_wp2_with fail
     go_ret2
     rw[HM.o];exact Turn.same HH.o (HB1.o.trans (HB2.o.mono HB1.o.size)) rfl
  ·have HK:=acA hk;have e1:(kind !=1)=true:=by simp;omega
   have e2:(kind !=2)=true:=by simp;omega
   have hm:b_ T ls kind=((0,30),T):=by
    have:lU T ls kind=30:=by unfold lU;rw[if_neg (by rw[uS.o];simp),if_pos HK.o]
    unfold b_;rw[this];simp
   have HM:=acA hm;clear hm hk;go_enter Tryz.func72,acu;go_wp2_with fail;refine HF.o.mono ?_;rintro e w1 ⟨rfl,hb1⟩;go_wp2_with fail
   go_ret2
   rw[HM.o];exact Turn.same HH.o hb1 rfl
 ·have hm:b_ T ls kind=((0,bg ls),T):=by
   have:lU T ls kind=bg ls:=by unfold lU;rw[if_pos hf]
   unfold b_;rw[this,if_neg hf]
  have hne:(bg ls==0)=false:=by simpa using hf
  have hne2:(bg ls !=0)=true:=by simpa using hf
  have HM:=acA hm;clear hm hf;go_enter Tryz.func72,acu;go_wp2_with fail;refine HF.o.mono ?_;rintro e w1 ⟨rfl,hb1⟩;go_wp2_with fail
  go_ret2
  rw[HM.o];exact Turn.same HH.o hb1 rfl
section
variable{g:Nat→Own}{D:Nat→Prop}{p mb:Nat}{ib nb:Int→Nat}{T:aL}
theorem kZ.frozen{w:World}{k:Int}{i n:Nat}{x:bP}(h:kZ D w k i n x)(j:Nat):w.frozen? ⟨i,j,none⟩=false:=by
 obtain⟨⟨a,c,h1,_⟩,_⟩:=h;simp[World.frozen?,h1]
theorem kZ.row{w:World}{k:Int}{i n:Nat}{x:bP}(h:kZ D w k i n x):∃a c,w.cell? ⟨i,6,none⟩=some (.slice a x.b.length c)∧xq x.b.length c∧ah D w a x.b.length (x.b.map bv)∧w.heap[i]? =some (.cells (kP k x a c n) 138 (0,0)):=by
 obtain⟨⟨a,c,h1,h2,h3⟩,_⟩:=h;exact⟨a,c,by simp only[World.cell?,h1];rfl,h2,h3,h1⟩
theorem aO.fields{w w':World}(h:aO g D w p mb ib nb T){k:Int}{x:bP}(hx:aj k T=some x)(f:bP→bP)(hb:(f x).b=x.b)(hn:(f x).names=x.names)(hk:(f x).kind=x.kind)(hK:Keeps (fun b=>b=ib k) w w')(hs:w'.heap.size=w.heap.size)
  (hc:∀a c,w.heap[ib k]? =some (.cells (kP k x a c (nb k)) 138 (0,0))→w'.heap[ib k]? =some (.cells (kP k (f x) a c (nb k)) 138 (0,0))):aO g D w' p mb ib nb (Go.Proofs.YtjnhnlabpccgjaaGreatDoor.bq k f T):=by
 have ti:=h.rG k x hx;refine h.bq hx hk (fun _ h=>h) (fun b hb=>⟨h.data b hb,by rw[hs];exact h.rX b hb⟩) (by omega) (fun b hbw h1 _=>hK.block b hbw (fun e=>h1 (by rw[e];exact ti))) ?_;obtain⟨⟨a,c,h1,h2,h3⟩,h4⟩:=h.item k x hx;refine⟨⟨a,c,hc a c h1,by rw[hb];exact h2,by rw[hb];exact h3.kept (by omega) fun b hD hbw=>hK.block b hbw (fun e=>by have:=h.data b hD;rw[e,ti]at this;cases this)⟩,fun hk2=> ?_⟩;have hk2':x.kind=2:=hk▸hk2;have e:bW (f x)=bW x:=by unfold bW;rw[hn]
 rw[e];have tn:=h.pI k x hx hk2';exact(h4 hk2').kept (hK.block _ (h.low _ (by rw[tn];simp)) (fun e=>by rw[e,ti]at tn;cases tn))
theorem Keeps.set2(w:World)(i j j':Nat)(v v':Value):Keeps (fun b=>b=i) w ((w.setCell ⟨i,j,none⟩ v).setCell ⟨i,j',none⟩ v'):=
 (Keeps.f_ w ⟨i,j,none⟩ v).trans (Keeps.f_ _ ⟨i,j',none⟩ v') (fun _ _ h=>h)
theorem vG(id:Int)(k:Int)(hk:bV T id=k)(hk0:k≠0)(w:World)(h:aO g D w p mb ib nb T)(hid:(Lit.int .i64 id).wf=true):
  Calls Tryz.prog 182 #[ptr p,.int .i64 id] w fun e w'=>e= .returned (.tuple #[.pointer none,.int .i64 k])∧w=w':=by
 obtain⟨hc0,hpw,hmw⟩:=h.cell;have hmap:=acA h.map;have hok:bY.ok id:=hid;unfold bV at hk;cases hx:aj id T with
 |none=>
  rw[hx]at hk;simp only at hk;subst hk;have HG:acB (aj id (T.map fun q=>(q.1,ptr (ib q.1)))=none):=by rw[fG,hx];rfl
  clear h hx hid hk0;go_enter Tryz.func182,Tryz.ntmps182;go_wp2_with (at_lookup;refine aU bY rfl _ _ 104 102 rfl Tryz.underlying104 (Tryz.bF _) rfl hmap.o id rfl hok ?_;rw[HG.o])
  go_ret2
  exact⟨rfl,rfl⟩
 |some x=>
  rw[hx]at hk;simp only at hk;by_cases hk2:x.kind=2
  ·rw[if_pos hk2]at hk;subst hk;have HG:acB (aj id (T.map fun q=>(q.1,ptr (ib q.1)))=some (ptr (ib id))):=by rw[fG,hx];rfl
   obtain⟨c0,c1,c2,c3,c4,c5,c7,hiw⟩:=(h.item id x hx).cell;rw[hk2]at c1;clear h hx hid hk0 c7 hk2;go_enter Tryz.func182,Tryz.ntmps182;go_wp2_with (at_lookup;refine aU bY rfl _ _ 104 102 rfl Tryz.underlying104 (Tryz.bF _) rfl hmap.o id rfl hok ?_;rw[HG.o])
   go_ret2
   exact⟨rfl,rfl⟩
  ·rw[if_neg hk2]at hk;exact absurd hk.symm hk0
theorem wH(id:Int){x:bP}(hx:aj id T=some x)(hk2:x.kind≠2)(w:World)(h:aO g D w p mb ib nb T)(hid:(Lit.int .i64 id).wf=true):
  Calls Tryz.prog 182 #[ptr p,.int .i64 id] w fun e w'=>e= .returned (.tuple #[ptr (ib id),.int .i64 0])∧w=w':=by
 obtain⟨hc0,hpw,hmw⟩:=h.cell;have hmap:=acA h.map;have hok:bY.ok id:=hid;have HG:acB (aj id (T.map fun q=>(q.1,ptr (ib q.1)))=some (ptr (ib id))):=by rw[fG,hx];rfl
 obtain⟨c0,c1,c2,c3,c4,c5,c7,hiw⟩:=(h.item id x hx).cell;have e1:(x.kind==2)=false:=by simpa using hk2
 clear h hx hid c7 hk2;go_enter Tryz.func182,Tryz.ntmps182;go_wp2_with (at_lookup;refine aU bY rfl _ _ 104 102 rfl Tryz.underlying104 (Tryz.bF _) rfl hmap.o id rfl hok ?_;rw[HG.o])
 go_ret2
 exact⟨rfl,rfl⟩
def j_(k:Int)(x:bP):Value:= .agg #[.int .i64 k,.int .i64 x.kind,.int .i64 x.links,.int .i64 x.b.length,.int .u64 x.aA,.bool x.closed]
def gq(T:aL)(id:Int):Value:=match aj id T with
 |some x=>j_ id x
 |none=> .agg #[.int .i64 0,.int .i64 0,.int .i64 0,.int .i64 0,.int .u64 0,.bool false]
theorem yO(id:Int)(w:World)(h:aO g D w p mb ib nb T)(hid:(Lit.int .i64 id).wf=true):
  Calls Tryz.prog 143 #[ptr p,.int .i64 id] w fun e w'=>e= .returned (.tuple #[gq T id,.bool (aj id T).isSome])∧Below w.heap.size w w':=by
 obtain⟨hc0,hpw,hmw⟩:=h.cell;have hok:bY.ok id:=hid;have Sb:∀o,MapAt bY (w.alloc o) mb (T.map fun q=>(q.1,ptr (ib q.1))):=fun o=>h.map.kept ((wall w o).block mb hmw);have hmap:=acA Sb;unfold gq;cases hx:aj id T with
 |none=>
  have HG:acB (aj id (T.map fun q=>(q.1,ptr (ib q.1)))=none):=by rw[fG,hx];rfl
  clear h hx hid Sb;go_enter Tryz.func143,Tryz.ntmps143;go_wp2_with (at_lookup;refine aU bY rfl _ _ 104 102 rfl Tryz.underlying104 (Tryz.bF _) rfl (hmap.o _) id rfl hok ?_;rw[HG.o]);exact aa3 (v:= .tuple #[.agg #[.int .i64 0,.int .i64 0,.int .i64 0,.int .i64 0,.int .u64 0,.bool false],.bool false]) (by simp[results,Tryz.results143,go_sem]) rfl ⟨rfl,wall w _⟩
 |some x=>
  have HG:acB (aj id (T.map fun q=>(q.1,ptr (ib q.1)))=some (ptr (ib id))):=by rw[fG,hx];rfl
  obtain⟨c0,c1,c2,c3,c4,c5,c7,hiw⟩:=(h.item id x hx).cell;clear h hx hid c7 Sb;unfold j_;go_enter Tryz.func143,Tryz.ntmps143;go_wp2_with (at_lookup;refine aU bY rfl _ _ 104 102 rfl Tryz.underlying104 (Tryz.bF _) rfl (hmap.o _) id rfl hok ?_;rw[HG.o]);exact aa3 (v:= .tuple #[.agg #[.int .i64 id,.int .i64 x.kind,.int .i64 x.links,.int .i64 x.b.length,.int .u64 x.aA,.bool x.closed],.bool true]) (by simp[results,Tryz.results143,go_sem]) rfl ⟨rfl,wall w _⟩
end
end Go.Proofs.YtjnhnlabpccgjaaGreatDoor
