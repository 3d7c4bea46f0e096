/- DERIVED -/
import Derived.Test.YtmflaonodghbcaaGreatDoorProg
import Derived.Shelf.Spec.SlicesGrow
import Derived.Test.YtmflaonodghbcaaGreatDoorM26
import Derived.Test.YtmflaonodghbcaaGreatDoorM19
import Derived.Test.YtmflaonodghbcaaGreatDoorM18
import Derived.Test.YtmflaonodghbcaaGreatDoorM37
import Derived.Test.YtmflaonodghbcaaGreatDoorM03
import Derived.Test.YtmflaonodghbcaaGreatDoorM21
import Derived.Test.YtmflaonodghbcaaGreatDoorM15
import Derived.Test.YtmflaonodghbcaaGreatDoorM10
import Derived.Test.YtmflaonodghbcaaGreatDoorM27
import Derived.Test.YtmflaonodghbcaaGreatDoorM04
set_option maxRecDepth 100000
set_option maxHeartbeats 64000000
set_option linter.all false
namespace Go.Proofs
open Go.Shelf
end Go.Proofs
namespace Go.Proofs.YtmflaonodghbcaaGreatDoor
open Go.ChangeShapes Go.WideShapes Go.ChangeAt Go.RowKit
theorem infoOne:(Tryz.prog.info? 197).map (fun i=>(i.zero,i.size,i.bytes))=some (some (.agg #[.int .i64 0,.slice none 0 0,.pointer none]),3,40):=by kernel_rfl
theorem infoInt:(Tryz.prog.info? 3).map (fun i=>(i.zero,i.size,i.bytes))=some (some (.int .i64 0),1,8):=by kernel_rfl
def livesB(x:eG)(now:Int):Bool:=decide (x.kind=1)&&x.closed&&decide (now<x.aT)
def liveM(T:aI)(now:Int):List Int:=(T.filter fun q=>livesB q.2 now).map (·.1)
theorem Xz(zs:List Int):∀u∈zs.map (Value.int .i64),u.oneCell'=true:=by
 intro u hu;obtain⟨x,_,rfl⟩:=List.mem_map.1 hu;rfl
theorem TM{w w':World}{base:Nat}{e:TypeId}{size:Nat}{v:Value}{n:Nat}{xs:List Value}{fp:Nat→Prop}(h:w.ownsRow base e size v n xs)(hK:Keeps fp w w')(hn:∀b,v.ownBlock=some b→¬fp b):w'.ownsRow base e size v n xs:=by
 refine⟨h.1,?_⟩;rcases h.2 with h0|⟨g,cap,cur,rfl,hb,hg,r⟩
 ·exact .inl h0
 ·exact .inr ⟨g,cap,cur,rfl,hb,(hK.block g (uh.1 hg).1 (hn g rfl)).trans hg,r⟩
theorem Dm{w:World}{base:Nat}{e:TypeId}{size:Nat}{v:Value}{n:Nat}{xs:List Value}(h:w.ownsRow base e size v n xs):∀b,v.ownBlock=some b→b<w.heap.size:=by
 intro b hb;rcases h.2 with⟨rfl,_⟩|⟨g,cap,cur,rfl,_,hg,_⟩
 ·cases hb
 ·cases hb;exact(uh.1 hg).1
theorem JK{w w':World}{base:Nat}{e:TypeId}{size:Nat}{v:Value}{n:Nat}{xs:List Value}(h:w.ownsRow base e size v n xs)(hb:Below w.heap.size w w'):w'.ownsRow base e size v n xs:=
 TM h (Keeps.below hb) fun b hv hf=>by have:=Dm h b hv;omega
section
variable{g:Nat→Own}{D:Nat→Prop}{p mb:Nat}{ib nb:Int→Nat}{T:aI}
end
section
variable{W w:World}{P:Nat→Prop}{p:Nat}{T:aI}
end
section
variable{w:World}{o:Mark}{i s:Nat}{S:rH}
end
def boundM(T:aI)(now:Int):Bool:=decide (0<(liveM T now).length)
def cutM(S:rH)(k:Nat):rH:=⟨S.l.take k++S.l.drop (k+1),S.next,S.last⟩
theorem Bb.one{K:aI→Prop}{o:Mark}{w:World}{vs:List Value}{x:lU}(h:Bb K o w vs x):∀u∈vs,u.oneCell'=true:=by
 obtain⟨a,c,q,h1,_⟩:=h;intro u hu;rw[h1]at hu;simp only[aaq,abv,or_false]at hu;rcases hu with rfl|rfl|rfl<;>rfl
theorem gL.one{K:aI→Prop}{o:Mark}{w:World}:∀{vs:List Value} {l:List lU},gL K o w vs l→∀u∈vs,u.oneCell'=true
 |_,[],h=>by have h1:_=[]:=h;rw[h1];intro u hu;cases hu
 |_,x::r,⟨v1,v2,h1,h2,h3⟩=>by
  intro u hu;rw[h1]at hu;rcases aas.1 hu with hu|hu
  ·exact h2.one u hu
  ·exact gL.one h3 u hu
section
variable{W w:World}{o:Mark}{i s:Nat}{S:rH}
end
def Q_(x:lN):List (List UInt8):=
 if x.kind=7∨x.kind=10 then[x.path,x.gy]else
 if x.kind=1∨x.kind=2∨x.kind=3∨x.kind=8∨x.kind=9∨x.kind=11∨x.kind=12∨x.kind=13 then[x.path]else[]
def gY:List (List UInt8)→List (List Nm)×Int
 |[]=>([],0)
 |a::r=>if (aV a).2≠0 then([],(aV a).2)else if (gY r).2≠0 then([],(gY r).2)else((aV a).1::(gY r).1,0)
def ig(x:lN):List (List Nm)×Int:=if 1≤x.kind∧x.kind≤17 then gY (Q_ x)else([],30)
def kP(S:rH)(id now:Int):Int×rH:=match S.l.findIdx? (fun x=>decide (x.id=id))with
 |none=>(29,S)
 |some k=>match S.l[k]? with
  |none=>(29,S)
  |some x=>if boundM x.t now=true then(28,S)else(0,cutM S k)
def g_(now tick:Int):Int:=if tick≤1099511627776 then(if now≤tick then tick else now)else now
def Pb(q:Int×dN):wK×dN:=(iw q.1,q.2)
def dN.tr(M:dN)(T:aI):dN:={M with t:=T}
def dN.sn(M:dN)(S:rH):dN:={M with s:=S}
def sdoP(M:dN)(x:lN)(p q:List Nm):wK×dN:=
 if x.kind=1 then kL M p else
 if x.kind=2 then(iw (dF M.t p 2).1.2,M.tr (dF M.t p 2).2)else
 if x.kind=3 then O7 M p x.snap else
 if x.kind=4 then(sreadM M x,M)else
 if x.kind=5 then kU M x else
 if x.kind=6 then Pb (kV M x)else
 if x.kind=7 then(iw (w_ M.t p q).1,M.tr (w_ M.t p q).2)else
 if x.kind=8 then Pb (jA M p)else
 if x.kind=9 then(iw (qZ M.t p).1,M.tr (qZ M.t p).2)else
 if x.kind=10 then(iw (wm M.t p q).1,M.tr (wm M.t p q).2)else
 if x.kind=11∨x.kind=12 then(rF M x p,M)else
 if x.kind=13 then Pb (O9 M p x.aT)else
 if x.kind=14 then(⟨(xI M.s M.t).1.2,(xI M.s M.t).1.1,[],[],none⟩,M.sn (xI M.s M.t).2)else
 if x.kind=15 then(iw (kP M.s x.snap M.now).1,M.sn (kP M.s x.snap M.now).2)else
 if x.kind=16 then(iw 0,{M with now:=g_ M.now x.aT})else(iw 0,M)
def gB(M:dN)(x:lN):wK×dN:=
 if (ig x).2≠0 then(iw (ig x).2,M)else sdoP M x ((ig x).1.getD 0 []) ((ig x).1.getD 1 [])
def FdOk(f:M4):Prop:=0≤f.id∧f.id≤65535∧f.b.length≤4096
structure Gu(S:rH):Prop where
 few:S.l.length≤8
 last:S.last.length≤64
 each:∀x∈S.l,fH x.t
structure fP(c:Int)(M:dN):Prop where
 t:fH M.t
 s:Gu M.s
 next:0≤M.s.next∧M.s.next≤c
 now:0≤M.now∧M.now≤1099511627776
 fd:∀n f,M.fds n=some f→FdOk f
theorem fP.mono{c d:Int}{M:dN}(h:fP c M)(hcd:c≤d):fP d M:=⟨h.t,h.s,⟨h.next.1,by have:=h.next.2;omega⟩,h.now,h.fd⟩
theorem fP.new:fP 1 og:=⟨fH.new,⟨by decide,by decide,fun x hx=>by cases hx⟩,⟨by decide,by decide⟩,⟨by decide,by decide⟩,fun n f h=>by cases h⟩
theorem fP.tr{c:Int}{M:dN}(h:fP c M){T:aI}(hT:fH T):fP c (M.tr T):=⟨hT,h.s,h.next,h.now,h.fd⟩
theorem fP.put{c:Int}{M:dN}(h:fP c M)(n:Nat)(f:Option M4)(hf:∀g,f=some g→FdOk g):fP c (M.put n f):=
 ⟨h.t,h.s,h.next,h.now,fun m g hg=>by
  have hg:(if m=n then f else M.fds m)=some g:=hg;by_cases hm:m=n
  ·rw[if_pos hm]at hg;exact hf g hg
  ·rw[if_neg hm]at hg;exact h.fd m g hg⟩
theorem Ra(bs:List UInt8):(kg bs).length≤64:=by rw[dY];omega
theorem Gu.take{S:rH}(h:Gu S){T:aI}(hT:fH T):Gu (xI S T).2:=by
 unfold xI;by_cases h8:8≤S.l.length
 ·rw[if_pos h8];exact h
 ·rw[if_neg h8];refine⟨by simp;omega,Ra _,fun x hx=> ?_⟩;rcases aas.1 hx with hx|hx
  ·exact h.each x hx
  ·rw[List.mem_singleton.1 hx];exact hT.dw
theorem Gu.cut{S:rH}(h:Gu S)(k:Nat):Gu (cutM S k):=by
 refine⟨?_,h.last,fun x hx=> ?_⟩
 ·have:=h.few;show(S.l.take k++S.l.drop (k+1)).length≤8;rw[List.length_append,List.length_take,List.length_drop];omega
 ·rcases aas.1 (show x∈S.l.take k++S.l.drop (k+1)from hx)with hx|hx
  ·exact h.each x (aaK hx)
  ·exact h.each x (abS hx)
theorem yD(S:rH)(id now:Int):(kP S id now).2=S∨∃k,(kP S id now).2=cutM S k:=by
 unfold kP;split
 ·exact .inl rfl
 ·split
  ·exact .inl rfl
  ·split
   ·exact .inl rfl
   ·exact .inr ⟨_,rfl⟩
theorem Gu.forget{S:rH}(h:Gu S)(id now:Int):Gu (kP S id now).2∧(kP S id now).2.next=S.next:=by
 rcases yD S id now with h1|⟨k,h1⟩
 ·rw[h1];exact⟨h,rfl⟩
 ·rw[h1];exact⟨h.cut k,rfl⟩
theorem XA{now tick:Int}(h:0≤now∧now≤1099511627776):0≤g_ now tick∧g_ now tick≤1099511627776:=by
 unfold g_;split
 ·split
  ·omega
  ·omega
 ·omega
theorem Pf{T:aI}(hT:fu T)(ls:List Nm)(kind:Int):0≤(dF T ls kind).1.1∧(dF T ls kind).1.1≤65535:=by
 unfold dF;split
 ·obtain⟨f,h1,h2,h3,_⟩:=hT.free;have:=hT.len;dsimp only;rw[h1];omega
 ·simp
theorem fP.Pg{c:Int}{M:dN}(h:fP c M){id:Int}{T:aI}(hT:kW M id=some T):fH T:=by
 unfold kW at hT;split at hT
 ·cases hT;exact h.t
 ·cases hf:Ir M.s id with
  |none=>rw[hf]at hT;cases hT
  |some y=>
   rw[hf]at hT;cases hT;exact h.s.each y (ab0 hf)
theorem read_le{T:aI}(hT:fu T)(id a n:Int):(Qk T id a n).length≤4096:=by
 unfold Qk;split
 ·simp
 ·rename_i x hx;split
  ·simp
  ·have:=(hT.each id x hx).size;unfold Qj;split
   ·simp
   ·rw[List.length_take,List.length_drop];omega
theorem fP.create{c:Int}{M:dN}(h:fP c M)(ls:List Nm):fP c (kL M ls).2:=by
 unfold kL;split
 ·exact h
 ·split
  ·exact h.tr (h.t.dF ls 1)
  ·refine(h.tr (h.t.dF ls 1)).put _ _ fun g hg=> ?_;cases hg;have:=Pf h.t.1 ls 1;exact⟨this.1,this.2,by simp⟩
theorem fP.open{c:Int}{M:dN}(h:fP c M)(ls:List Nm)(id:Int):fP c (O7 M ls id).2:=by
 unfold O7;split
 ·exact h
 ·rename_i T hT;split
  ·exact h
  ·unfold openT;split
   ·exact h
   ·split
    ·exact h
    ·split
     ·exact h
     ·split
      ·exact h
      ·refine h.put _ _ fun g hg=> ?_;cases hg;exact⟨by simp,by simp,read_le (h.Pg hT).1 _ _ _⟩
theorem fP.write{c:Int}{M:dN}(h:fP c M)(x:lN):fP c (kU M x).2:=by
 unfold kU;split
 ·exact h
 ·split
  ·exact h
  ·exact h.tr (h.t.dG _ _)
theorem fP.close{c:Int}{M:dN}(h:fP c M)(x:lN)(hx:wU x):fP c (kV M x).2:=by
 unfold kV;split
 ·split
  ·exact h.tr (h.t.fZ _ _ hx.wt.1)
  ·exact(h.tr (h.t.fZ _ _ hx.wt.1)).put _ _ fun g hg=>by cases hg
 ·split
  ·exact h
  ·exact h.put _ _ fun g hg=>by cases hg
theorem fP.unlink{c:Int}{M:dN}(h:fP c M)(ls:List Nm):fP c (jA M ls).2:=by
 unfold jA;split
 ·exact h
 ·split
  ·exact h
  ·exact h.tr (h.t.dR ls)
theorem fP.keep{c:Int}{M:dN}(h:fP c M)(ls:List Nm)(aT:Int)(ht:0≤aT):fP c (O9 M ls aT).2:=by
 unfold O9;split
 ·exact h
 ·split
  ·exact h
  ·exact h.tr (h.t.uW _ _ ht)
def Rb(S:Nat→Prop)(w:World)(u:Value)(q:List Nm):Prop:=∃a c,u= .slice a q.length c∧q.length≤c∧bH S w a q.length (q.map strOf)
def oG(S:Nat→Prop)(w:World)(vals:List Value)(l:List (List Nm)):Prop:=vals.length=l.length∧∀(i:Nat) (q:List Nm),l[i]? =some q→∃u,vals[i]? =some u∧Rb S w u q
theorem Rb.move{S S':Nat→Prop}{w w':World}{u:Value}{q:List Nm}(h:Rb S w u q)(hs:w.heap.size≤w'.heap.size)(hk:∀b,S b→b<w.heap.size→S' b∧w'.heap[b]? =w.heap[b]?):Rb S' w' u q:=by
 obtain⟨a,c,h1,h2,h3⟩:=h;exact⟨a,c,h1,h2,h3.row.move hs hk,h3.short⟩
theorem oG.move{S S':Nat→Prop}{w w':World}{vals:List Value}{l:List (List Nm)}(h:oG S w vals l)(hs:w.heap.size≤w'.heap.size)(hk:∀b,S b→b<w.heap.size→S' b∧w'.heap[b]? =w.heap[b]?):oG S' w' vals l:=
 ⟨h.1,fun i q hq=>by
  obtain⟨u,h1,h2⟩:=h.2 i q hq;exact⟨u,h1,h2.move hs hk⟩⟩
theorem oG.append{S:Nat→Prop}{w:World}{v1 v2:List Value}{l1 l2:List (List Nm)}(h:oG S w v1 l1)(k:oG S w v2 l2):oG S w (v1++v2) (l1++l2):=by
 refine⟨by rw[List.length_append,List.length_append,h.1,k.1],fun i q hq=> ?_⟩;by_cases hi:i<l1.length
 ·rw[aaZ hi]at hq;rw[aaZ (by rw[h.1];exact hi)];exact h.2 i q hq
 ·rw[aaD (by omega)]at hq;rw[aaD (by rw[h.1];omega),h.1];exact k.2 _ q hq
def su(B:Nat)(w:World)(v:Value)(m:Nat)(xs:List Value)(L:List (List Nm))(v':Value)(w':World):Prop:=
 ∃vals l,l.Perm L∧w'.ownsRow B 33 1 v' (m+l.length) (xs++vals)∧oG (fun b=>w.heap.size≤b∧b<w'.heap.size∧v'.ownBlock≠some b) w' vals l∧Keeps (fun b=>v.ownBlock=some b) w w'∧∀b,v'.ownBlock=some b→v.ownBlock=some b∨w.heap.size≤b
theorem su.refl{B:Nat}{w:World}{v:Value}{m:Nat}{xs:List Value}(h:w.ownsRow B 33 1 v m xs):su B w v m xs [] v w:=
 ⟨[],[],List.Perm.refl _,by simpa using h,⟨rfl,fun i q hq=>by simp at hq⟩,Keeps.refl _ _,fun b hb=> .inl hb⟩
theorem su.trans{B:Nat}{w w1 w2:World}{v v1 v2:Value}{m:Nat}{xs:List Value}{L1 L2:List (List Nm)}(h:su B w v m xs L1 v1 w1)(k:∀m1 xs1,w1.ownsRow B 33 1 v1 m1 xs1→su B w1 v1 m1 xs1 L2 v2 w2):su B w v m xs (L1++L2) v2 w2:=by
 obtain⟨vals,l,hp,ho,hv,hK,hb⟩:=h;obtain⟨vals2,l2,hp2,ho2,hv2,hK2,hb2⟩:=k _ _ ho;have hs1:=hK.size;have hs2:=hK2.size;refine⟨vals++vals2,l++l2,hp.append hp2,by rw[List.length_append,←Nat.add_assoc,←List.append_assoc];exact ho2,?_,hK.trans hK2 fun x hx hx1=> ?_,fun b hb'=> ?_⟩
 ·refine(hv.move (by omega) fun b hS hbw=>⟨⟨hS.1,by omega,fun he=> ?_⟩,hK2.block b hbw fun he=>hS.2.2 he⟩).append (hv2.move ace fun b hS hbw=>⟨⟨by omega,hS.2.1,hS.2.2⟩,rfl⟩);rcases hb2 b he with h1|h1
  ·exact hS.2.2 h1
  ·omega
 ·rcases hb x hx1 with h1|h1
  ·exact h1
  ·omega
 ·rcases hb2 b hb' with h1|h1
  ·exact hb b h1
  ·exact .inr (by omega)
def bmk(l:List UInt8):ByteArray:=⟨l.toArray⟩
theorem XB(l:List UInt8):(bmk l).size=l.length:=by simp[bmk,ByteArray.size]
def Small(q:List Nm):Prop:=q.length≤64∧∀n∈q,n.length≤16
theorem bls_len(ss:List ByteArray):(Yy ss).length=ss.length:=by simp[Yy]
theorem XC{w:World}{e:TypeId}{ss:List ByteArray}{n:Nat}(hn:ss.length=n)(hm:n≤maxLen)(hs:∀s∈ss,s.size≤maxLen):bH (BL w.heap.size) (w.alloc (.cells (ss.map Value.string).toArray e)) (some ⟨w.heap.size,0,none⟩) n ss:=by
 refine⟨⟨by simpa using hn,hm,fun _=>⟨w.heap.size,0,rfl,Nat.le_refl _,by simp,fun i hi=> ?_⟩⟩,hs⟩;have hh:(w.alloc (.cells (ss.map Value.string).toArray e)).heap[w.heap.size]? =some (.cells (ss.map Value.string).toArray e):=(MapKept.heap_alloc w _).1;simp only[World.cell?,hh,Nat.zero_add];simp
theorem bls_any(ss:List ByteArray):ss.any Dy=(Yy ss).any (fun x=> !dO x):=by
 unfold Yy;rw[List.any_map];rfl
theorem XD(ss:List ByteArray):BJ ss=bS (Yy ss):=by
 unfold BJ bS;rw[bls_any,bls_len]
def XE(w:World)(l:List UInt8)(e:Ending)(w':World):Prop:=
 ∃a len cap ss,e= .returned (.tuple #[.slice a len cap,.int .i64 (aV l).2])∧len≤cap∧Yy ss=(aV l).1∧bH (BL w.heap.size) w' a len ss∧Below w.heap.size w w'
theorem Iy(s:ByteArray)(w:World)(hs:s.size<4294967281)(m:Int)(hm:w.cell? ⟨2,0,none⟩=some (.int .i64 m)):
  Calls Tryz.prog 114 #[.string s] w (XE w s.data.toList):=by
 obtain⟨l,hl⟩:∃l,s.data.toList=l:=⟨_,rfl⟩;rw[hl];have hsl:s.size=l.length:=by rw[←hl];simp
 have HC:=Tryz.strings_CutPrefix s ⟨#[47]⟩;rw[hl]at HC;have ways:(Lib.hasPrefix l [47]=false∧aV l=([],12))∨(l=[47]∧aV l=([],0))∨(∃r,r≠[]∧l=47::r∧aV l=if bS (dD r)=0 then(dD r,0)else([],bS (dD r))):=by
  cases l with
  |nil=>exact Or.inl ⟨rfl,rfl⟩
  |cons c r=>
   by_cases h:c=47
   ·subst h;by_cases hr:r=[]
    ·subst hr;exact Or.inr (Or.inl ⟨rfl,rfl⟩)
    ·exact Or.inr (Or.inr ⟨r,hr,rfl,by simp[aV,hr]⟩)
   ·refine Or.inl ⟨?_,by simp[aV,h]⟩;simp[Lib.hasPrefix,List.isPrefixOf];exact fun e=>h e.symm
 clear hl;rcases ways with⟨h1,h2⟩|⟨h1,h2⟩|⟨r,h1,h2,h3⟩
 ·have HP:=ab9 h2;rw[h1]at HC;clear h1 h2 hsl;go_enter Tryz.func114,Tryz.ntmps114;go_wp2_with fail;refine(HC _).mono ?_;rintro e w1 ⟨rfl,rfl⟩;clear HC;go_wp2_with fail
  go_ret2
  exact⟨none,0,0,[],by rw[HP.o];rfl,by simp,by rw[HP.o];rfl,⟨ah.nil _ _ _,by simp⟩,Below.refl _ _⟩
 ·have HP:=ab9 h2;subst h1;clear h2 hsl;rw[show Lib.trimPrefix [47] [47]=[]from rfl,show Lib.hasPrefix [47] [47]=true from rfl]at HC;go_enter Tryz.func114,Tryz.ntmps114;go_wp2_with fail;refine(HC _).mono ?_;rintro e w1 ⟨rfl,rfl⟩;clear HC;go_wp2_with fail
  go_ret2
  exact⟨none,0,0,[],by rw[HP.o];rfl,by simp,by rw[HP.o];rfl,⟨ah.nil _ _ _,by simp⟩,Below.refl _ _⟩
 ·subst h2;have HP:=ab9 h3;clear h3;have e1:Lib.trimPrefix (47::r) [47]=r:=by simp[Lib.trimPrefix,Lib.hasPrefix,List.isPrefixOf]
  have e2:Lib.hasPrefix (47::r) [47]=true:=by simp[Lib.hasPrefix,List.isPrefixOf]
  rw[show(⟨#[47]⟩:ByteArray).data.toList=[47]from rfl,e1,e2]at HC;clear e1 e2;obtain⟨t,ht⟩:∃t,t=bmk r:=⟨_,rfl⟩;have ht':(⟨r.toArray⟩:ByteArray)=t:=ht.symm;rw[ht']at HC;have htl:t.data.toList=r:=by rw[ht];rfl
  have hts:t.size=r.length:=by rw[ht,XB]
  have hte:=ByteArray.toList_eq t;rw[htl]at hte;have ht1:¬t.toList=[]:=by rw[hte];exact h1
  have ht2:t.toList.isEmpty=false:=by rw[hte];simpa using h1
  have hsz:t.size<4294967281:=by rw[hts];simp at hsl;omega
  clear ht ht' hte;obtain⟨hB,hcn⟩:=Kt t;rw[htl]at hB hcn;have hlen:(Lib.splitB ⟨#[47]⟩ 0 (Lib.countB t ⟨#[47]⟩) t).length=Lib.countB t ⟨#[47]⟩+1:=by
   have:=aaG List.length hB;rw[List.length_map,F7]at this;omega
  have hcl:Lib.countB t ⟨#[47]⟩+1≤r.length+1:=by rw[hcn];have:=List.count_le_length (a:=(47:UInt8)) (l:=r);omega
  have hshort:∀x∈Lib.splitB ⟨#[47]⟩ 0 (Lib.countB t ⟨#[47]⟩) t,x.size≤maxLen:=by
   intro x hx;have h5:x.data.toList∈dD r:=by rw[←hB];exact List.mem_map.2 ⟨x,hx,rfl⟩
   have:=Ru r _ h5;have h6:x.data.toList.length=x.size:=by simp
   unfold maxLen;omega
  obtain⟨ss,hss⟩:∃ss,ss=Lib.splitB ⟨#[47]⟩ 0 (Lib.countB t ⟨#[47]⟩) t:=⟨_,rfl⟩;have HS:=Tryz.strings_Split t ⟨#[47]⟩ m w hsz hm (by decide);obtain⟨n,hn⟩:∃n,n=Lib.countB t ⟨#[47]⟩+1:=⟨_,rfl⟩;rw[←hss,←hn]at HS;rw[←hss]at hB hlen hshort;rw[←hn]at hlen hcl;have hnm:n≤maxLen:=by unfold maxLen;omega
  have YP:=XC (w:=w) (e:=9) hlen hnm hshort;have HF:=Kq (S:=BL w.heap.size) (some ⟨w.heap.size,0,none⟩) n n ss _ YP;rw[XD,show Yy ss=dD r from hB]at HF;have HB:=ab9 hB;clear hB hlen hshort hss hn hcn hcl hnm htl hts hsl;cases hf:(bS (dD r) !=0)
  ·have hf0:bS (dD r)=0:=by simpa using hf
   have HF0:=ab9 hf0;clear hf0;go_enter Tryz.func114,Tryz.ntmps114;go_wp2_with fail;refine(HC _).mono ?_;rintro e w1 ⟨rfl,rfl⟩;clear HC;go_wp2_with fail;refine HS.mono ?_;rintro e w1 ⟨rfl,rfl⟩;go_wp2_with fail;refine HF.mono ?_;rintro e w1 ⟨rfl,hb⟩;go_wp2_with fail
   go_ret2
   refine⟨_,n,n,ss,by rw[HP.o,if_pos HF0.o];rfl,Nat.le_refl _,by rw[HP.o,if_pos HF0.o];exact HB.o,YP.below hb (by simp),(acf.alloc ace _).trans (hb.mono (by simp))⟩
  ·have hf0:bS (dD r)≠0:=by simpa using hf
   have HF0:=ab9 hf0;clear hf0;go_enter Tryz.func114,Tryz.ntmps114;go_wp2_with fail;refine(HC _).mono ?_;rintro e w1 ⟨rfl,rfl⟩;clear HC;go_wp2_with fail;refine HS.mono ?_;rintro e w1 ⟨rfl,rfl⟩;go_wp2_with fail;refine HF.mono ?_;rintro e w1 ⟨rfl,hb⟩;go_wp2_with fail
   go_ret2
   refine⟨none,0,0,[],by rw[HP.o,if_neg HF0.o];rfl,by simp,by rw[HP.o,if_neg HF0.o];rfl,⟨ah.nil _ _ _,by simp⟩,(acf.alloc ace _).trans (hb.mono (by simp))⟩
theorem Fu:∀(ts:List (List UInt8)),(∀t∈ts,(aV t).2=0)→gY ts=(ts.map fun t=>(aV t).1,0)
 |[],_=>rfl
 |t::r,h=>by
  have h1:=h t (by simp);have h2:=Fu r fun x hx=>h x (by simp[hx]);unfold gY;rw[if_neg (by rw[h1];simp),h2,if_neg (by simp)];rfl
theorem vO:∀(ts:List (List UInt8)) (k:Nat) (t:List UInt8),ts[k]? =some t→(∀x∈ts.take k,(aV x).2=0)→(aV t).2≠0→gY ts=([],(aV t).2)
 |[],k,t,h,_,_=>by simp at h
 |a::r,0,t,h,_,h2=>by
  have h:a=t:=by simpa using h
  subst h;unfold gY;rw[if_pos h2]
 |a::r,k+1,t,h,h1,h2=>by
  have h3:=vO r k t (by simpa using h) (fun x hx=>h1 x (by rw[abX];simp[hx])) h2;unfold gY;rw[if_neg (by rw[h1 a (by rw[abX];simp)];simp),h3,if_pos h2]
theorem bls_eta(ss:List ByteArray):(Yy ss).map strOf=ss:=by
 unfold Yy;rw[List.map_map];have:(strOf∘fun s:ByteArray=>s.data.toList)=id:=by
  funext s;show strOf s.data.toList=s;cases s;rfl
 rw[this,List.map_id]
def fM(w:World)(ps:List (List Nm)×Int)(e:Ending)(w':World):Prop:=
 ∃a n c vs,e= .returned (.tuple #[.slice a n c,.int .i64 ps.2])∧n=ps.1.length∧n≤c∧ah (fun b=>w.heap.size≤b∧b<w'.heap.size) w' a n vs∧oG (fun b=>w.heap.size≤b∧b<w'.heap.size) w' vs ps.1∧Below w.heap.size w w'
def fq(w:World)(ts:List (List UInt8))(k:Nat)(v:Value)(wr:World):Prop:=
 ∃vals,wr.ownsRow w.heap.size 33 1 v k vals∧oG (fun b=>w.heap.size≤b∧b<wr.heap.size∧v.ownBlock≠some b) wr vals ((ts.take k).map fun t=>(aV t).1)∧Below w.heap.size w wr∧∀t∈ts.take k,(aV t).2=0
theorem fq.start{w wr:World}(ts:List (List UInt8))(hb:Below w.heap.size w wr):fq w ts 0 (.slice none 0 0) wr:=
 ⟨[],⟨rfl,.inl ⟨rfl,rfl⟩⟩,⟨rfl,fun i q hq=>by simp at hq⟩,hb,fun t ht=>by simp at ht⟩
theorem fq.one{w:World}{ts:List (List UInt8)}{k:Nat}{v:Value}{wr:World}(h:fq w ts k v wr):∃a c vals,v= .slice a k c∧k≤c∧wr.ownsRow w.heap.size 33 1 v k vals:=by
 obtain⟨vals,h1,h2⟩:=h;obtain⟨a,c,h3,h4⟩:=bG h1;exact⟨a,c,vals,h3,h4,h1⟩
theorem fq.next{w w2 w3 w4:World}{ts:List (List UInt8)}{k:Nat}{v v':Value}{wr:World}{t:List UInt8}{a:Option Addr}{len cap:Nat}{ss:List ByteArray}{vals:List Value}
  (h1:wr.ownsRow w.heap.size 33 1 v k vals)(h2:oG (fun b=>w.heap.size≤b∧b<wr.heap.size∧v.ownBlock≠some b) wr vals ((ts.take k).map fun t=>(aV t).1))(h3:Below w.heap.size w wr)(h4:∀t∈ts.take k,(aV t).2=0)
  (ht:ts[k]? =some t)(h0:(aV t).2=0)(hlc:len≤cap)(hbs:Yy ss=(aV t).1)(hS:bH (BL wr.heap.size) w2 a len ss)(hb2:Below wr.heap.size wr w2)(hb3:Below w2.heap.size w2 w3)
  (hown:w4.ownsRow w.heap.size 33 1 v' (k+1) (vals++[.slice a len cap]))(hg:w3.grownBy w4 v.ownBlock)(NZ:v'.ownBlock=v.ownBlock∨v'.ownBlock=some w3.heap.size):fq w ts (k+1) v' w4:=by
 have hs2:=hb2.size;have hs3:=hb3.size;have hs1:=h3.size;have hs4:=hg.size;have hvo:∀b,v.ownBlock=some b→b<wr.heap.size:=jf h1;have hne:∀b,b<w3.heap.size→v.ownBlock≠some b→v'.ownBlock≠some b:=fun b hb hn=>by
  rcases NZ with e|e
  ·rw[e];exact hn
  ·rw[e];simp;omega
 refine⟨_,hown,?_,(h3.trans ((hb2.trans (hb3.mono hs2)).mono hs1)).grown hg (by omega) (bC h1),fun x hx=> ?_⟩
 ·have e:(ts.take (k+1)).map (fun t=>(aV t).1)=(ts.take k).map (fun t=>(aV t).1)++[(aV t).1]:=by
   obtain⟨hk,e⟩:=aaj.1 ht;rw[aai hk,aaz,e];rfl
  rw[e];refine oG.append (h2.move (by omega) fun b hb hbw=>⟨⟨hb.1,by omega,hne b (by omega) hb.2.2⟩,?_⟩) ⟨rfl,fun i q hq=> ?_⟩
  ·exact((hg.block b (by omega) (fun e=>hb.2.2 e.symm)).trans (hb3.block b (by omega))).trans (hb2.block b hbw)
  ·rcases i with _|i
   ·have hq:(aV t).1=q:=by simpa using hq
    subst hq;refine⟨_,rfl,?_⟩;have hl:=hS.length;have hss:ss=((aV t).1).map strOf:=by rw[←hbs,bls_eta]
    have hll:len=(aV t).1.length:=by rw[←hl,hss,List.length_map]
    subst hll;rw[hss]at hS;refine⟨a,cap,rfl,hlc,hS.row.move (by omega) fun b hb hbw=> ?_,hS.short⟩;have hb:wr.heap.size≤b:=hb;have hvn:v.ownBlock≠some b:=fun e=>by have:=hvo b e;omega
    exact⟨⟨by omega,by omega,hne b (by omega) hvn⟩,(hg.block b (by omega) (fun e=>hvn e.symm)).trans (hb3.block b hbw)⟩
   ·simp at hq
 ·obtain⟨hk,e⟩:=aaj.1 ht;rw[aai hk,e]at hx;rcases aas.1 hx with hx|hx
  ·exact h4 x hx
  ·rw[List.mem_singleton.1 hx];exact h0
theorem fq.done{w:World}{ts:List (List UInt8)}{v:Value}{wr:World}(h:fq w ts ts.length v wr):fM w (gY ts) (.returned (.tuple #[v,.int .i64 0])) wr:=by
 obtain⟨vals,h1,h2,h3,h4⟩:=h;rw[List.take_of_length_le ace]at h2 h4;rw[Fu ts h4];obtain⟨a,c,rfl,hc⟩:=bG h1;exact⟨a,ts.length,c,vals,rfl,by simp,hc,(ah.mU h1).2,h2.move ace fun b hb _=>⟨⟨hb.1,hb.2.1⟩,rfl⟩,h3⟩
theorem fM.up{w w1 wr:World}{ps:List (List Nm)×Int}{e:Ending}(h:fM w1 ps e wr)(hb:Below w.heap.size w w1):fM w ps e wr:=by
 obtain⟨a,n,c,vs,h1,h2,h3,h4,h5,h6⟩:=h;have:=hb.size;exact⟨a,n,c,vs,h1,h2,h3,h4.mono fun b hb'=>⟨by omega,hb'.2⟩,h5.move ace fun b hb' _=>⟨⟨by omega,hb'.2⟩,rfl⟩,hb.trans (h6.mono hb.size)⟩
theorem Bw:(Tryz.prog.info? 33).map (fun i=>(i.zero,i.size,i.bytes))=some (some (.slice none 0 0),1,24):=by kernel_rfl
theorem XF(kd:Int)(hkd:kd=1∨kd=2∨kd=3∨kd=8∨kd=9∨kd=11∨kd=12∨kd=13)(p:Nat)(w:World)(pa gy:List UInt8)(fd at_ n aT sn:Int)(dt:List UInt8)(da:Option Addr)(dc:Nat)(hpa:pa.length<4294967281)(hto:gy.length<4294967281)(m:Int)(hm:w.cell? ⟨2,0,none⟩=some (.int .i64 m)):
  Calls Tryz.prog 46 #[ptr p,.agg (opC ⟨kd,pa,gy,fd,at_,n,aT,sn,dt⟩ da dc)] w (fM w (gY [pa])):=by
 rcases hkd with hkd|hkd|hkd|hkd|hkd|hkd|hkd|hkd
 all_goals as_aux_lemma=>
  obtain⟨ie,he,hz0,hz1,hz2⟩:=aay Bw;have Md:2<w.heap.size:=aaW w _ hm;obtain⟨w1,hw1⟩:∃w1,w1=(w.alloc (.cells (opC ⟨kd,pa,gy,fd,at_,n,aT,sn,dt⟩ da dc) 40)).alloc (.cells #[.string (strOf pa)] 9):=⟨_,rfl⟩;have hb1:Below w.heap.size w w1:=by rw[hw1];exact(wall w _).trans ((wall _ _).mono (by simp))
  have hbl:w1.heap[w.heap.size+1]? =some (.cells #[.string (strOf pa)] 9 (0,0)):=by
   rw[hw1];have:=(MapKept.heap_alloc (w.alloc (.cells (opC ⟨kd,pa,gy,fd,at_,n,aT,sn,dt⟩ da dc) 40)) (.cells #[.string (strOf pa)] 9)).1;rw[Pd]at this;exact this
  have hrow:∀k t,([pa]:List (List UInt8))[k]? =some t→w1.cell? ⟨w.heap.size+1,k,none⟩=some (.string (strOf t))∧t.length<4294967281:=fun k t h=>by
   rcases k with _|k
   ·obtain rfl:pa=t:=by simpa using h
    exact⟨by simp[World.cell?,hbl],hpa⟩
   ·simp at h
  have hbz:w.heap.size+1<w1.heap.size:=(uh.1 hbl).1;clear hbl;have gN:=ab9 hrow;have HB1:=ab9 hb1;have HW:=ab9 hw1;have HM:=ab9 hm;have FZ:=ab9 Md;clear hrow hb1 hw1 hm hpa hto Md;subst hkd;unfold opC at HW;unfold opC;go_enter Tryz.func46,Tryz.ntmps46;go_wp2_with fail;rw[←HW.o];clear HW;obtain⟨ts,hts⟩:∃ts:List (List UInt8),ts=[pa]:=⟨_,rfl⟩;have hnn:ts.length=1:=by rw[hts];rfl
  rw[←hts]at gN;have HTS:=ab9 hts;clear hts;have qJ:=ab9 hnn;clear hnn
  go_loopw [7,44] (fun v iv wr=>∃k:Nat,k≤1∧iv= .int .i64 k∧fq w1 ts k v wr) (fun _ iv _=>1-(intOf iv).toNat)
  case atStart=>exact⟨0,by omega,rfl,fq.start ts acf⟩
  case round=>
   obtain⟨k,hk,rfl,hrel⟩:=hrel;have HR:=ab9 hrel;clear hrel;by_cases hlt:k<1
   ·obtain⟨t,ht⟩:∃t,ts[k]? =some t:=⟨ts[k]'(by rw[qJ.o];exact hlt),List.getElem?_eq_getElem _⟩;obtain⟨hc1,hts⟩:=gN.o k t ht;obtain⟨vals,hown,hpv,hbw,hok⟩:=HR.o;have hcell:=(hbw.cell (p:=⟨w.heap.size+1,k,none⟩) hbz).trans hc1;have hmr:wr.cell? ⟨2,0,none⟩=some (.int .i64 m):=((HB1.o.trans (hbw.mono HB1.o.size)).cell (p:=⟨2,0,none⟩) FZ.o).trans HM.o;have gI:=ab9 (Iy (strOf t) wr (by rw[iJ];exact hts) m hmr);have HT:=ab9 ht;have HOWN:=ab9 hown;have HPV:=ab9 hpv;have OB:=ab9 hbw;have iM:=ab9 hok;have i0:(0:Int)≤(k:Int):=by omega
    have i1:(k:Int)<1:=by omega
    have hsz:=hbw.size;have hd:decide ((k:Int)<1)=true:=by simpa using i1
    obtain⟨ao,co,rfl,hac⟩:=bG hown;clear hown hpv hbw hok ht hc1 hts hmr;go_wp2_with fail;refine gI.o.mono ?_;rintro e w2 ⟨a,len,cap,ss,rfl,hlc,hbs,hS,hb2⟩;rw[show(strOf t).data.toList=t from rfl]at hbs⊢;have Us:=ab9 hbs;have HS:=ab9 hS;have HB2:=ab9 hb2;have Z5:=ab9 hlc;have hs2:=hb2.size;clear gI hbs hS hb2 hlc;obtain⟨z,hz⟩:∃z,z=(aV t).2:=⟨_,rfl⟩;rw[←hz];by_cases hzz:z=0
    ·have HZ:=ab9 (hz.symm.trans hzz);subst hzz;clear hz;go_wp2_with (at_builtin;refine bV (by rfl) _ _ 109 (by rfl) w1.heap.size 33 ie (.slice none 0 0) 24 Tryz.underlying109 he hz0 hz1 hz2 rfl _ _ _ (by rfl) (bR HOWN.o fun b hb _=>((wall w2 (.cells #[.slice a len cap] 33)).block b (by have:=jf HOWN.o b hb;omega)).trans (HB2.o.block b (jf HOWN.o b hb))) (some ⟨w2.heap.size,0,none⟩) 1 1 [.slice a len cap] (by rfl) (yQ _ _) (by intro u hu;rw[List.mem_singleton.1 hu];rfl) (by unfold maxLen;omega) (by omega) (by simp;omega) ?_;intro A' c' w4 lK yF _ XG);have HN:=ab9 (fq.next HOWN.o HPV.o OB.o iM.o HT.o HZ.o Z5.o Us.o HS.o HB2.o (wall w2 _) lK yF XG);have HG4:=ab9 yF;clear lK yF XG;go_roundw
     case rel=>
      exact⟨k+1,by omega,by go_num,HN.o⟩
     case measure=>simp[intOf];omega
    ·have HZ:=ab9 hzz;have hz2:(z !=0)=true:=by simpa using hzz
     have HZE:=ab9 hz;clear hzz hz;go_wp2_with fail
     go_ret2
     rw[←HTS.o,vO ts k t HT.o iM.o (by rw[←HZE.o];exact HZ.o)];exact⟨none,0,0,[],by rw[HZE.o];rfl,rfl,Nat.le_refl _,ah.nil _ _ _,⟨rfl,fun i q hq=>by simp at hq⟩,HB1.o.trans ((OB.o.trans (HB2.o.mono OB.o.size)).mono HB1.o.size)⟩
   ·have hd:decide ((k:Int)<1)=false:=by simp;omega
    obtain rfl:k=1:=by omega
    obtain⟨a,c,vals,rfl,hac,hown⟩:=HR.o.one;clear hown;go_wp2_with fail
    go_ret2
    have hd:=HR.o;rw[←qJ.o]at hd;have:=hd.done;rw[qJ.o,HTS.o]at this;exact this.up HB1.o
theorem XH(kd:Int)(hkd:kd=7∨kd=10)(p:Nat)(w:World)(pa gy:List UInt8)(fd at_ n aT sn:Int)(dt:List UInt8)(da:Option Addr)(dc:Nat)(hpa:pa.length<4294967281)(hto:gy.length<4294967281)(m:Int)(hm:w.cell? ⟨2,0,none⟩=some (.int .i64 m)):
  Calls Tryz.prog 46 #[ptr p,.agg (opC ⟨kd,pa,gy,fd,at_,n,aT,sn,dt⟩ da dc)] w (fM w (gY [pa,gy])):=by
 rcases hkd with hkd|hkd
 all_goals as_aux_lemma=>
  obtain⟨ie,he,hz0,hz1,hz2⟩:=aay Bw;have Md:2<w.heap.size:=aaW w _ hm;obtain⟨w1,hw1⟩:∃w1,w1=(w.alloc (.cells (opC ⟨kd,pa,gy,fd,at_,n,aT,sn,dt⟩ da dc) 40)).alloc (.cells #[.string (strOf pa),.string (strOf gy)] 9):=⟨_,rfl⟩;have hb1:Below w.heap.size w w1:=by rw[hw1];exact(wall w _).trans ((wall _ _).mono (by simp))
  have hbl:w1.heap[w.heap.size+1]? =some (.cells #[.string (strOf pa),.string (strOf gy)] 9 (0,0)):=by
   rw[hw1];have:=(MapKept.heap_alloc (w.alloc (.cells (opC ⟨kd,pa,gy,fd,at_,n,aT,sn,dt⟩ da dc) 40)) (.cells #[.string (strOf pa),.string (strOf gy)] 9)).1;rw[Pd]at this;exact this
  have hrow:∀k t,([pa,gy]:List (List UInt8))[k]? =some t→w1.cell? ⟨w.heap.size+1,k,none⟩=some (.string (strOf t))∧t.length<4294967281:=fun k t h=>by
   rcases k with _|k
   ·obtain rfl:pa=t:=by simpa using h
    exact⟨by simp[World.cell?,hbl],hpa⟩
   ·rcases k with _|k
    ·obtain rfl:gy=t:=by simpa using h
     exact⟨by simp[World.cell?,hbl],hto⟩
    ·simp at h
  have hbz:w.heap.size+1<w1.heap.size:=(uh.1 hbl).1;clear hbl;have gN:=ab9 hrow;have HB1:=ab9 hb1;have HW:=ab9 hw1;have HM:=ab9 hm;have FZ:=ab9 Md;clear hrow hb1 hw1 hm hpa hto Md;subst hkd;unfold opC at HW;unfold opC;go_enter Tryz.func46,Tryz.ntmps46;go_wp2_with fail;rw[←HW.o];clear HW;obtain⟨ts,hts⟩:∃ts:List (List UInt8),ts=[pa,gy]:=⟨_,rfl⟩;have hnn:ts.length=2:=by rw[hts];rfl
  rw[←hts]at gN;have HTS:=ab9 hts;clear hts;have qJ:=ab9 hnn;clear hnn
  go_loopw [7,44] (fun v iv wr=>∃k:Nat,k≤2∧iv= .int .i64 k∧fq w1 ts k v wr) (fun _ iv _=>2-(intOf iv).toNat)
  case atStart=>exact⟨0,by omega,rfl,fq.start ts acf⟩
  case round=>
   obtain⟨k,hk,rfl,hrel⟩:=hrel;have HR:=ab9 hrel;clear hrel;by_cases hlt:k<2
   ·obtain⟨t,ht⟩:∃t,ts[k]? =some t:=⟨ts[k]'(by rw[qJ.o];exact hlt),List.getElem?_eq_getElem _⟩;obtain⟨hc1,hts⟩:=gN.o k t ht;obtain⟨vals,hown,hpv,hbw,hok⟩:=HR.o;have hcell:=(hbw.cell (p:=⟨w.heap.size+1,k,none⟩) hbz).trans hc1;have hmr:wr.cell? ⟨2,0,none⟩=some (.int .i64 m):=((HB1.o.trans (hbw.mono HB1.o.size)).cell (p:=⟨2,0,none⟩) FZ.o).trans HM.o;have gI:=ab9 (Iy (strOf t) wr (by rw[iJ];exact hts) m hmr);have HT:=ab9 ht;have HOWN:=ab9 hown;have HPV:=ab9 hpv;have OB:=ab9 hbw;have iM:=ab9 hok;have i0:(0:Int)≤(k:Int):=by omega
    have i1:(k:Int)<2:=by omega
    have hsz:=hbw.size;have hd:decide ((k:Int)<2)=true:=by simpa using i1
    obtain⟨ao,co,rfl,hac⟩:=bG hown;clear hown hpv hbw hok ht hc1 hts hmr;go_wp2_with fail;refine gI.o.mono ?_;rintro e w2 ⟨a,len,cap,ss,rfl,hlc,hbs,hS,hb2⟩;rw[show(strOf t).data.toList=t from rfl]at hbs⊢;have Us:=ab9 hbs;have HS:=ab9 hS;have HB2:=ab9 hb2;have Z5:=ab9 hlc;have hs2:=hb2.size;clear gI hbs hS hb2 hlc;obtain⟨z,hz⟩:∃z,z=(aV t).2:=⟨_,rfl⟩;rw[←hz];by_cases hzz:z=0
    ·have HZ:=ab9 (hz.symm.trans hzz);subst hzz;clear hz;go_wp2_with (at_builtin;refine bV (by rfl) _ _ 109 (by rfl) w1.heap.size 33 ie (.slice none 0 0) 24 Tryz.underlying109 he hz0 hz1 hz2 rfl _ _ _ (by rfl) (bR HOWN.o fun b hb _=>((wall w2 (.cells #[.slice a len cap] 33)).block b (by have:=jf HOWN.o b hb;omega)).trans (HB2.o.block b (jf HOWN.o b hb))) (some ⟨w2.heap.size,0,none⟩) 1 1 [.slice a len cap] (by rfl) (yQ _ _) (by intro u hu;rw[List.mem_singleton.1 hu];rfl) (by unfold maxLen;omega) (by omega) (by simp;omega) ?_;intro A' c' w4 lK yF _ XG);have HN:=ab9 (fq.next HOWN.o HPV.o OB.o iM.o HT.o HZ.o Z5.o Us.o HS.o HB2.o (wall w2 _) lK yF XG);have HG4:=ab9 yF;clear lK yF XG;go_roundw
     case rel=>
      exact⟨k+1,by omega,by go_num,HN.o⟩
     case measure=>simp[intOf];omega
    ·have HZ:=ab9 hzz;have hz2:(z !=0)=true:=by simpa using hzz
     have HZE:=ab9 hz;clear hzz hz;go_wp2_with fail
     go_ret2
     rw[←HTS.o,vO ts k t HT.o iM.o (by rw[←HZE.o];exact HZ.o)];exact⟨none,0,0,[],by rw[HZE.o];rfl,rfl,Nat.le_refl _,ah.nil _ _ _,⟨rfl,fun i q hq=>by simp at hq⟩,HB1.o.trans ((OB.o.trans (HB2.o.mono OB.o.size)).mono HB1.o.size)⟩
   ·have hd:decide ((k:Int)<2)=false:=by simp;omega
    obtain rfl:k=2:=by omega
    obtain⟨a,c,vals,rfl,hac,hown⟩:=HR.o.one;clear hown;go_wp2_with fail
    go_ret2
    have hd:=HR.o;rw[←qJ.o]at hd;have:=hd.done;rw[qJ.o,HTS.o]at this;exact this.up HB1.o
theorem XI(kd:Int)(hkd:kd=4∨kd=5∨kd=6∨kd=14∨kd=15∨kd=16∨kd=17)(p:Nat)(w:World)(pa gy:List UInt8)(fd at_ n aT sn:Int)(dt:List UInt8)(da:Option Addr)(dc:Nat)(hpa:pa.length<4294967281)(hto:gy.length<4294967281)(m:Int)(hm:w.cell? ⟨2,0,none⟩=some (.int .i64 m)):
  Calls Tryz.prog 46 #[ptr p,.agg (opC ⟨kd,pa,gy,fd,at_,n,aT,sn,dt⟩ da dc)] w (fM w (gY [])):=by
 rcases hkd with hkd|hkd|hkd|hkd|hkd|hkd|hkd
 all_goals as_aux_lemma=>
  obtain⟨ie,he,hz0,hz1,hz2⟩:=aay Bw;have Md:2<w.heap.size:=aaW w _ hm;obtain⟨w1,hw1⟩:∃w1,w1=w.alloc (.cells (opC ⟨kd,pa,gy,fd,at_,n,aT,sn,dt⟩ da dc) 40):=⟨_,rfl⟩;have hb1:Below w.heap.size w w1:=by rw[hw1];exact wall w _
  have hrow:∀k t,([]:List (List UInt8))[k]? =some t→w1.cell? ⟨w.heap.size+1,k,none⟩=some (.string (strOf t))∧t.length<4294967281:=fun k t h=>by simp at h
  have gN:=ab9 hrow;have HB1:=ab9 hb1;have HW:=ab9 hw1;have HM:=ab9 hm;have FZ:=ab9 Md;clear hrow hb1 hw1 hm hpa hto Md;subst hkd;unfold opC at HW;unfold opC;go_enter Tryz.func46,Tryz.ntmps46;go_wp2_with fail;rw[←HW.o];clear HW;obtain⟨ts,hts⟩:∃ts:List (List UInt8),ts=[]:=⟨_,rfl⟩;have hnn:ts.length=0:=by rw[hts];rfl
  rw[←hts]at gN;have HTS:=ab9 hts;clear hts;have qJ:=ab9 hnn;clear hnn
  go_loopw [7,44] (fun v iv wr=>∃k:Nat,k≤0∧iv= .int .i64 k∧fq w1 ts k v wr) (fun _ iv _=>0-(intOf iv).toNat)
  case atStart=>exact⟨0,by omega,rfl,fq.start ts acf⟩
  case round=>
   obtain⟨k,hk,rfl,hrel⟩:=hrel;have HR:=ab9 hrel;clear hrel;obtain rfl:k=0:=by omega
   obtain⟨a,c,vals,rfl,hac,hown⟩:=HR.o.one;go_wp2_with fail
   go_ret2
   have hd:=HR.o;rw[←qJ.o]at hd;have:=hd.done;rw[qJ.o,HTS.o]at this;exact this.up HB1.o
theorem TN(p:Nat)(w:World)(x:lN)(da:Option Addr)(dc:Nat)(h:¬(1≤x.kind∧x.kind≤17)):
  Calls Tryz.prog 46 #[ptr p,.agg (opC x da dc)] w (fM w ([],30)):=by
 have e1:(x.kind==1)=false:=by simp;omega
 have e2:(x.kind==2)=false:=by simp;omega
 have e3:(x.kind==3)=false:=by simp;omega
 have e4:(x.kind==4)=false:=by simp;omega
 have e5:(x.kind==5)=false:=by simp;omega
 have e6:(x.kind==6)=false:=by simp;omega
 have e7:(x.kind==7)=false:=by simp;omega
 have e8:(x.kind==8)=false:=by simp;omega
 have e9:(x.kind==9)=false:=by simp;omega
 have e10:(x.kind==10)=false:=by simp;omega
 have e11:(x.kind==11)=false:=by simp;omega
 have e12:(x.kind==12)=false:=by simp;omega
 have e13:(x.kind==13)=false:=by simp;omega
 have e14:(x.kind==14)=false:=by simp;omega
 have e15:(x.kind==15)=false:=by simp;omega
 have e16:(x.kind==16)=false:=by simp;omega
 have e17:(x.kind==17)=false:=by simp;omega
 clear h;unfold opC;go_enter Tryz.func46,Tryz.ntmps46;go_wp2_with fail
 go_ret2
 exact⟨none,0,0,[],rfl,rfl,Nat.le_refl _,ah.nil _ _ _,⟨rfl,fun i q hq=>by simp at hq⟩,wall w _⟩
theorem Iz(p:Nat)(w:World)(x:lN)(da:Option Addr)(dc:Nat)(hx:wU x)(m:Int)(hm:w.cell? ⟨2,0,none⟩=some (.int .i64 m)):
  Calls Tryz.prog 46 #[ptr p,.agg (opC x da dc)] w (fM w (ig x)):=by
 by_cases h:1≤x.kind∧x.kind≤17
 ·obtain⟨kd,pa,gy,fd,at_,n,aT,sn,dt⟩:=x;have h':1≤kd∧kd≤17:=h;have hp:pa.length<4294967281:=hx.wp;have hq:gy.length<4294967281:=hx.wq;have e:ig ⟨kd,pa,gy,fd,at_,n,aT,sn,dt⟩=gY (Q_ ⟨kd,pa,gy,fd,at_,n,aT,sn,dt⟩):=if_pos h;rw[e];rcases (show kd=1∨kd=2∨kd=3∨kd=4∨kd=5∨kd=6∨kd=7∨kd=8∨kd=9∨kd=10∨kd=11∨kd=12∨kd=13∨kd=14∨kd=15∨kd=16∨kd=17 by omega)with rfl|rfl|rfl|rfl|rfl|rfl|rfl|rfl|rfl|rfl|rfl|rfl|rfl|rfl|rfl|rfl|rfl
  all_goals first|exact XF _ (by decide) p w pa gy fd at_ n aT sn dt da dc hp hq m hm|exact XI _ (by decide) p w pa gy fd at_ n aT sn dt da dc hp hq m hm|exact XH _ (by decide) p w pa gy fd at_ n aT sn dt da dc hp hq m hm
 ·have e:ig x=([],30):=if_neg h;rw[e];exact TN p w x da dc h
inductive JL (M:dN) (x:lN):dN→Prop
 |same:JL M x M
 |make (ls:List Nm) (kind:Int):JL M x (M.tr (dF M.t ls kind).2)
 |create (ls:List Nm):0≤oo M→(dF M.t ls 1).1.2=0→JL M x (dN.put (M.tr (dF M.t ls 1).2) (oo M).toNat (some ⟨true,(dF M.t ls 1).1.1,[]⟩))
 |opens (T:aI) (ls:List Nm) (y:eG):kW M x.snap=some T→0≤oo M→(bU T ls).2=0→aj (bU T ls).1 T=some y→y.kind≠2→y.closed=true→JL M x (M.put (oo M).toNat (some ⟨false,0,Qk T (bU T ls).1 0 y.b.length⟩))
 |write (f:M4):iZ M x.fd true=some f→JL M x (M.tr (dG M.t f.id x.data).2)
 |closes (f:M4):x.kind=6→iZ M x.fd true=some f→(fZ M.t f.id x.aT).1=0→JL M x (dN.put (M.tr (fZ M.t f.id x.aT).2) x.fd.toNat none)
 |shut (f:M4):x.kind=6→iZ M x.fd false=some f→JL M x (M.put x.fd.toNat none)
 |link (p q:List Nm):JL M x (M.tr (w_ M.t p q).2)
 |unlink (ls:List Nm):(dz M.t ls).er=0→kN (dz M.t ls).k (dz M.t ls).l (dz M.t ls).u (dz M.t ls).c M.now=0→JL M x (M.tr (dR M.t ls).2)
 |rmdir (ls:List Nm):JL M x (M.tr (qZ M.t ls).2)
 |rename (p q:List Nm):JL M x (M.tr (wm M.t p q).2)
 |keep (ls:List Nm):(dz M.t ls).er=0→JL M x (M.tr (uW M.t (dz M.t ls).i x.aT).2)
 |take:JL M x (M.sn (xI M.s M.t).2)
 |forget:JL M x (M.sn (kP M.s x.snap M.now).2)
 |tick:x.kind=16→JL M x {M with now:=g_ M.now x.aT}
section
variable{M:dN}{x:lN}
theorem XJ(now tick:Int):now≤g_ now tick:=by
 unfold g_;split
 ·split
  ·omega
  ·omega
 ·omega
theorem JL.now{M':dN}(h:JL M x M'):M.now≤M'.now∧(x.kind≠16→M'.now=M.now):=by
 cases h with
 |tick h16=>exact⟨XJ _ _,fun h=>absurd h16 h⟩
 |same=>exact⟨Int.le_refl _,fun _=>rfl⟩
 |make ls kind=>exact⟨Int.le_refl _,fun _=>rfl⟩
 |create ls h1 h2=>exact⟨Int.le_refl _,fun _=>rfl⟩
 |opens T ls y h1 h2 h3 h4 h5 h6=>exact⟨Int.le_refl _,fun _=>rfl⟩
 |write f h1=>exact⟨Int.le_refl _,fun _=>rfl⟩
 |closes f h1 h2 h3=>exact⟨Int.le_refl _,fun _=>rfl⟩
 |shut f h1 h2=>exact⟨Int.le_refl _,fun _=>rfl⟩
 |link p q=>exact⟨Int.le_refl _,fun _=>rfl⟩
 |unlink ls h1 h2=>exact⟨Int.le_refl _,fun _=>rfl⟩
 |rmdir ls=>exact⟨Int.le_refl _,fun _=>rfl⟩
 |rename p q=>exact⟨Int.le_refl _,fun _=>rfl⟩
 |keep ls h1=>exact⟨Int.le_refl _,fun _=>rfl⟩
 |take=>exact⟨Int.le_refl _,fun _=>rfl⟩
 |forget=>exact⟨Int.le_refl _,fun _=>rfl⟩
theorem XK(M:dN):oo M= -1∨∃n:Nat,n<8∧oo M=n∧M.fds n=none:=by
 unfold oo;split
 ·rename_i n hn;have h1:=ab0 hn;have h2:=List.find?_some hn;rw[abg]at h1;exact .inr ⟨n,h1,rfl,by cases hf:M.fds n with|none=>rfl|some f=>rw[hf]at h2;cases h2⟩
 ·exact .inl rfl
theorem Bz(M:dN){n m:Nat}(f:Option M4)(h:m≠n):(M.put n f).fds m=M.fds m:=if_neg h
theorem JL.fd{M':dN}(h:JL M x M'){n:Nat}{f:M4}(hf:M.fds n=some f)(hx:¬(x.kind=6∧x.fd.toNat=n)):M'.fds n=some f:=by
 have hfree:∀g,0≤oo M→(M.put (oo M).toNat g).fds n=some f:=fun g h0=>by
  rcases XK M with e|⟨m,h1,h2,h3⟩
  ·omega
  ·rw[Bz _ _ (fun e=>by rw[h2]at e;simp at e;subst e;rw[h3]at hf;cases hf)];exact hf
 cases h with
 |create ls h1 h2=>exact hfree _ h1
 |opens T ls y h1 h2 h3 h4 h5 h6=>exact hfree _ h2
 |closes g h1 h2 h3=>rw[Bz _ _ (fun e=>hx ⟨h1,e.symm⟩)];exact hf
 |shut g h1 h2=>rw[Bz _ _ (fun e=>hx ⟨h1,e.symm⟩)];exact hf
 |same=>exact hf
 |make ls kind=>exact hf
 |write g h1=>exact hf
 |link p q=>exact hf
 |unlink ls h1 h2=>exact hf
 |rmdir ls=>exact hf
 |rename p q=>exact hf
 |keep ls h1=>exact hf
 |take=>exact hf
 |forget=>exact hf
 |tick h1=>exact hf
end
structure Mk5(i j k l n:Nat):Prop where
 mm:Mk i j k l
 ne:n≠0∧n≠i∧n≠j∧n≠k∧n≠l
def uG(o:Mark)(i j k l n:Nat)(w:World)(p:Nat)(q:wK×dN)(e:Ending)(w':World):Prop:=
 ∃o',Fh o' q.1 e w'∧Step o (fun m=>m=i∨m=j∨m=k∨m=l∨m=n) w o' w'∧bT o' i j k w' p q.2
structure lD(W:World)(o:Mark)(i j k l n:Nat)(w:World)(p:Nat)(x:lN)(da:Option Addr)(dc:Nat)(o1:Mark)(w3:World)(M:dN):Prop where
 mm:Mk5 i j k l n
 st:bT o1 i j k w3 p M
 marks:Marks W o1 w3
 step:Step o (fun m=>m=i∨m=j∨m=k∨m=l∨m=n) w o1 w3
 op:w3.heap[w.heap.size]? =some (.cells (opC x da dc) 40 (0,0))
 re:w3.heap[w.heap.size+1]? =some (.cells (gZ (iw 0) none none 0 0) 37 (0,0))
 om:o1 w.heap.size=0
 rm:o1 (w.heap.size+1)=n
section
variable{W w w3 w4 w5:World}{o o1 o4:Mark}{i j k l n p:Nat}{M M':dN}{x:lN}{da:Option Addr}{dc:Nat}
theorem lD.start(hk:Mk5 i j k l n)(hS:bT o i j k w p M)(hM:Marks W o w)(x:lN)(da:Option Addr)(dc:Nat):∃o1,lD W o i j k l n w p x da dc o1 ((w.alloc (.cells (opC x da dc) 40)).alloc (.cells (gZ (iw 0) none none 0 0) 37)) M:=by
 obtain⟨w2,hw2⟩:∃w2,w2=(w.alloc (.cells (opC x da dc) 40)).alloc (.cells (gZ (iw 0) none none 0 0) 37):=⟨_,rfl⟩;have hb2:Below w.heap.size w w2:=by rw[hw2];exact(wall w _).trans ((wall _ _).mono (by simp))
 have hop:w2.heap[w.heap.size]? =some (.cells (opC x da dc) 40 (0,0)):=by
  rw[hw2];exact((wall _ _).block _ (by simp)).trans (MapKept.heap_alloc w _).1
 have hre:w2.heap[w.heap.size+1]? =some (.cells (gZ (iw 0) none none 0 0) 37 (0,0)):=by
  rw[hw2];have:=(MapKept.heap_alloc (w.alloc (.cells (opC x da dc) 40)) (.cells (gZ (iw 0) none none 0 0) 37)).1;rw[Pd]at this;exact this
 rw[←hw2];obtain⟨m0,m1,m2,m3,m4⟩:=hk.ne;obtain⟨o1,hs1,hl1,hl2⟩:=dI hM n (fun b=>b=w.heap.size+1) (w':=w2) (fun b hb=>by subst hb;exact⟨by omega,(uh.1 hre).1⟩) hb2;exact⟨o1,hk,hS.step (fun e=>m0 e.symm) (fun e=>m1 e.symm) (fun e=>m2 e.symm) (fun e=>m3 e.symm) hs1,hM.step (fun e=>m0 e.symm) hs1,hs1.mono fun m hm=> .inr (.inr (.inr (.inr hm))),hop,hre,(hl2 w.heap.size (by omega)).trans (Vh fun h9=>by have:=(hM.new _ h9).2;omega),hl1 _ rfl⟩
theorem lD.n0(hk:Mk5 i j k l n):¬((0:Nat)=i∨0=j∨0=k∨0=l):=by
 obtain⟨n1,n2,n3,n4,-⟩:=hk.mm.ne;omega
theorem lD.grow(h:lD W o i j k l n w p x da dc o1 w3 M)(hb:Below w3.heap.size w3 w4):lD W o i j k l n w p x da dc o1 w4 M:=
 ⟨h.mm,h.st.grow h.marks hb,h.marks.grow hb,h.step.trans (Step.grow h.marks hb),(hb.block _ (uh.1 h.op).1).trans h.op,(hb.block _ (uh.1 h.re).1).trans h.re,h.om,h.rm⟩
theorem lD.turn(h:lD W o i j k l n w p x da dc o1 w3 M)(hs:Step o1 (fun m=>m=i∨m=j∨m=k∨m=l) w3 o4 w4)(hS:bT o4 i j k w4 p M'):lD W o i j k l n w p x da dc o4 w4 M':=by
 obtain⟨m0,m1,m2,m3,m4⟩:=h.mm.ne;have h0:=lD.n0 h.mm;have hr:=(uh.1 h.re).1;have hp:=(uh.1 h.op).1;refine⟨h.mm,hS,h.marks.step h0 hs,h.step.trans (hs.mono fun m hm=>by omega),(hs.block hp (by rw[h.om];exact h0)).trans h.op,(hs.block hr (by rw[h.rm];omega)).trans h.re,(hs.old _ hp).trans h.om,(hs.old _ hr).trans h.rm⟩
theorem lD.stays(h:lD W o i j k l n w p x da dc o1 w3 M)(hs:Step o1 (fun m=>m=i∨m=j∨m=k∨m=l) w3 o4 w4){b:Nat}(hb:o1 b=0∧b<w3.heap.size):w4.heap[b]? =w3.heap[b]? :=hs.block hb.2 (by rw[hb.1];exact lD.n0 h.mm)
theorem lD.opb(h:lD W o i j k l n w p x da dc o1 w3 M):o1 w.heap.size=0∧w.heap.size<w3.heap.size:=⟨h.om,(uh.1 h.op).1⟩
theorem lD.clock(h:lD W o i j k l n w p x da dc o1 w3 M)(u:Int):w3.cell? ⟨p,2,none⟩=some (.int .u64 M.now)∧w3.frozen? ⟨p,2,none⟩=false∧lD W o i j k l n w p x da dc o1 (w3.setCell ⟨p,2,none⟩ (.int .u64 u)) {M with now:=u}:=by
 obtain⟨n1,n2,n3,n4,n5,n6,n7,n8,n9,n10⟩:=h.mm.mm.ne;obtain⟨t,s,v,h1,h2,h3,h4⟩:=h.st.at_;obtain⟨z0,z1,z2,z3,z4⟩:=iG h1;have hz:=size_set w3 ⟨p,2,none⟩ (.int .u64 u);have hst:Step o1 (fun m=>m=k) w3 o1 (w3.setCell ⟨p,2,none⟩ (.int .u64 u)):=⟨fun _ _=>rfl,fun b hb hn=>absurd (h.marks.new b hn).2 (by omega),(Keeps.kX w3 ⟨p,2,none⟩ _).mono fun x _ hx=>by
  have hx:x=p:=hx;rw[hx];exact h.st.own⟩
 have h0:¬(fun m=>m=k) 0:=fun e=>n3 e.symm;refine⟨z2,z4 2,h.turn (hst.mono fun m hm=> .inr (.inr (.inl hm))) ⟨⟨t,s,v,?_,h2.step h0 n6 hst,h3.step h0 n8 hst,fun m hm=>(h4 m hm).step h0 hst⟩,h.st.own,by have:=h.st.low;omega⟩⟩;have:=aK (i:=2) (v:= .int .u64 u) h1;rw[st_now]at this;exact this
theorem TP(a b:Int)(w:World):Calls Tryz.prog 62 #[.int .u64 a,.int .u64 b] w fun e w'=>e= .returned (.int .u64 (g_ a b))∧Below w.heap.size w w':=by
 refine(Xx a b w).mono ?_;rintro e w' ⟨rfl,rfl⟩;refine⟨?_,Below.refl _ _⟩;have:Fq a b=g_ a b:=by
  unfold Fq g_;split
  ·by_cases h:a≤b
   ·rw[if_pos h];omega
   ·rw[if_neg h];omega
  ·rfl
 rw[this]
theorem lD.fin{r:wK}{FV FW:Option Addr}{FX FY:Nat}(h:lD W o i j k l n w p x da dc o1 w4 M)(hs:mE w4 (w.heap.size+1) (gZ r FV FW FX FY) 37 w5)(k1:r.data.length≤FX)(k2:r.names.length≤FY)(k3:ah (Free o1 w4) w4 FV r.data.length (r.data.map bv))(k4:bH (Free o1 w4) w4 FW r.names.length (r.names.map strOf)):
  uG o i j k l n w p (r,M) (.returned (.agg (gZ r FV FW FX FY))) w5:=by
 obtain⟨m0,m1,m2,m3,m4⟩:=h.mm.ne;have hst:=hs.step h.marks h.rm;have hn0:¬(fun m=>m=n) 0:=fun e=>m0 e.symm;exact⟨o1,⟨_,rfl,FV,FW,FX,FY,rfl,k1,k2,k3.free hn0 hst,⟨k4.row.free hn0 hst,k4.short⟩⟩,h.step.trans (hst.mono fun m hm=> .inr (.inr (.inr (.inr hm)))),h.st.step hn0 (fun e=>m1 e.symm) (fun e=>m2 e.symm) (fun e=>m3 e.symm) hst⟩
theorem lD.XL{r:wK}(h:lD W o i j k l n w p x da dc o1 w4 M)(hs:mE w4 (w.heap.size+1) (gZ r none none 0 0) 37 w5)(k1:r.data=[])(k2:r.names=[]):
  uG o i j k l n w p (r,M) (.returned (.agg (gZ r none none 0 0))) w5:=
 h.fin hs (by rw[k1];exact Nat.le_refl _) (by rw[k2];exact Nat.le_refl _) (by rw[k1];exact ah.nil _ _ _) (by rw[k2];exact oh _ _)
end
theorem TQ{a:List UInt8}(h:(aV a).2=0):(aV a).1.length≤8:=by
 cases a with
 |nil=>simp[aV]
 |cons c r=>
  by_cases hc:c≠47
  ·simp[aV,hc]
  ·by_cases hr:r=[]
   ·have e:aV (c::r)=([],0):=by unfold aV;dsimp only;rw[if_neg hc,if_pos hr]
    rw[e];simp
   ·by_cases hf:bS (dD r)=0
    ·have e:aV (c::r)=(dD r,0):=by unfold aV;dsimp only;rw[if_neg hc,if_neg hr,if_pos hf]
     rw[e];unfold bS at hf;split at hf
     ·simp at hf
     ·split at hf
      ·simp at hf
      ·dsimp only;omega
    ·have e:aV (c::r)=([],bS (dD r)):=by unfold aV;dsimp only;rw[if_neg hc,if_neg hr,if_neg hf]
     rw[e];simp
theorem fM.zero{w w':World}{e:Ending}{er:Int}(h:fM w ([],er) e w'):∃a c,e= .returned (.tuple #[.slice a 0 c,.int .i64 er])∧Below w.heap.size w w':=by
 obtain⟨a,n,c,vs,h1,h2,h3,h4,h5,h6⟩:=h;have h2:n=0:=h2;subst h2;exact⟨a,c,h1,h6⟩
structure NmAt(B:Nat)(w:World)(b off:Nat)(q:List Nm)(a0:Option Addr)(c0:Nat):Prop where
 cell:w.cell? ⟨b,off,none⟩=some (.slice a0 q.length c0)
 cap:q.length≤c0
 strs:bH (fun b=>B≤b∧b<w.heap.size) w a0 q.length (q.map strOf)
theorem fM.one{w w':World}{e:Ending}{q:List Nm}(h:fM w ([q],0) e w'):∃b off c a0 c0,e= .returned (.tuple #[.slice (some ⟨b,off,none⟩) 1 c,.int .i64 0])∧w.heap.size≤b∧b<w'.heap.size∧NmAt w.heap.size w' b off q a0 c0∧Below w.heap.size w w':=by
 obtain⟨a,n,c,vs,h1,h2,h3,h4,h5,h6⟩:=h;have h2:n=1:=h2;subst h2;obtain⟨b,off,rfl,hb,hbw,hc⟩:=h4.at_ (by omega);obtain⟨u,hu,a0,c0,rfl,k2,k3⟩:=h5.2 0 q rfl;exact⟨b,off,c,a0,c0,h1,hb.1,hbw,⟨(hc 0 (by omega)).trans hu,k2,k3⟩,h6⟩
theorem Ph{a:List UInt8}(h:(gY [a]).2=0):gY [a]=([(aV a).1],0)∧(aV a).2=0:=by
 unfold gY at h⊢;by_cases h1:(aV a).2≠0
 ·rw[if_pos h1]at h;exact absurd h h1
 ·rw[if_neg h1];exact⟨rfl,by simpa using h1⟩
structure Gv(S:Nat→Prop)(W:World)(o:Mark)(i j k l n:Nat)(w:World)(p:Nat)(M:dN)(cc:Int)(x:lN)(da:Option Addr)(dc:Nat)(m:Int):Prop where
 st:bT o i j k w p M
 marks:Marks W o w
 m5:Mk5 i j k l n
 ok:fP cc M
 few:cc≤1000000000
 op:wU x
 row:ah S w da x.data.length (x.data.map bv)
 max:w.cell? ⟨2,0,none⟩=some (.int .i64 m)
 paths:(ig x).2=0
section
variable{W w w2 w3:World}{o o1:Mark}{i j k l n p:Nat}{M:dN}{x:lN}{da:Option Addr}{dc:Nat}{S:Nat→Prop}{cc m:Int}{e:Ending}{q q':List Nm}
theorem Gv.pre(h:Gv S W o i j k l n w p M cc x da dc m):∃o1 w2,acd (lD W o i j k l n w p x da dc o1 w2 M)∧acd (ah S w2 da x.data.length (x.data.map bv))∧acd (Calls Tryz.prog 46 #[ptr p,.agg (opC x da dc)] ((w.alloc (.cells (opC x da dc) 40)).alloc (.cells (gZ (iw 0) none none 0 0) 37)) (fM w2 (ig x)))∧acd (fP cc M)∧acd (wU x)∧acd (Mk5 i j k l n)∧cc≤1000000000:=by
 obtain⟨o1,hd2⟩:=lD.start h.m5 h.st h.marks x da dc;have hb2:Below w.heap.size w ((w.alloc (.cells (opC x da dc) 40)).alloc (.cells (gZ (iw 0) none none 0 0) 37)):=(wall w _).trans ((wall _ _).mono (by simp));exact⟨o1,_,hd2,h.row.below hb2 ace,Iz p _ x da dc h.op m ((hb2.cell (p:=⟨2,0,none⟩) (aaW w _ h.max)).trans h.max),h.ok,h.op,h.m5,h.few⟩
theorem lD.none_(h:lD W o i j k l n w p x da dc o1 w2 M)(hr:fM w2 ([],0) e w3)(hd:ah S w2 da x.data.length (x.data.map bv)):∃a3 c3,e= .returned (.tuple #[.slice a3 0 c3,.int .i64 0])∧acd (lD W o i j k l n w p x da dc o1 w3 M)∧acd (Below w2.heap.size w2 w3)∧acd (ah S w3 da x.data.length (x.data.map bv))∧w3.cell? ⟨w.heap.size,0,none⟩=some (.int .i64 x.kind):=by
 obtain⟨a3,c3,he,hb⟩:=hr.zero;have h3:=h.grow hb;exact⟨a3,c3,he,h3,hb,hd.below hb ace,by simp[World.cell?,h3.op,opC]⟩
theorem lD.one(h:lD W o i j k l n w p x da dc o1 w2 M)(hr:fM w2 ([q],0) e w3)(hd:ah S w2 da x.data.length (x.data.map bv)):∃b off c3 a0 c0,e= .returned (.tuple #[.slice (some ⟨b,off,none⟩) 1 c3,.int .i64 0])∧acd (lD W o i j k l n w p x da dc o1 w3 M)∧acd (Below w2.heap.size w2 w3)∧acd (o1 b=0∧b<w3.heap.size)∧acd (NmAt w2.heap.size w3 b off q a0 c0)∧acd (ah S w3 da x.data.length (x.data.map bv))∧w3.cell? ⟨w.heap.size,0,none⟩=some (.int .i64 x.kind)∧w3.cell? ⟨b,off,none⟩=some (.slice a0 q.length c0):=by
 obtain⟨b,off,c3,a0,c0,he,hb0,hbw,hn,hb⟩:=hr.one;have h3:=h.grow hb;exact⟨b,off,c3,a0,c0,he,h3,hb,⟨Vh fun h0=>by have:=(h.marks.new b h0).2;omega,hbw⟩,hn,hd.below hb ace,by simp[World.cell?,h3.op,opC],hn.cell⟩
theorem Dn(M:dN)(e:ig x=([],0)):gB M x=sdoP M x [] []:=by unfold gB;rw[e];rfl
theorem JM(M:dN)(e:ig x=gY [x.path])(hp:(ig x).2=0):∃q0,ig x=([q0],0)∧gB M x=sdoP M x q0 []∧q0.length≤8:=by
 rw[e]at hp;obtain⟨h1,h2⟩:=Ph hp;exact⟨_,e.trans h1,by unfold gB;rw[e,h1];rfl,TQ h2⟩
end
end Go.Proofs.YtmflaonodghbcaaGreatDoor
