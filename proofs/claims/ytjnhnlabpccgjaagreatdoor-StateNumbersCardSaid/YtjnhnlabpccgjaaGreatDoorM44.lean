/-  -/
import Derived.Test.YtjnhnlabpccgjaaGreatDoorM28
import Derived.Test.YtjnhnlabpccgjaaGreatDoorM27
import Derived.Test.YtjnhnlabpccgjaaGreatDoorM22
import Derived.Test.YtjnhnlabpccgjaaGreatDoorM43
import Derived.Test.YtjnhnlabpccgjaaGreatDoorM31
set_option maxRecDepth 100000
set_option maxHeartbeats 64000000
set_option linter.all false
namespace Go.Proofs.YtjnhnlabpccgjaaGreatDoor
open Go.ChangeShapes Go.WideShapes Go.ChangeAt Go.RowKit
theorem AU{M:dS}{x:jD}{ls:List Nm}(hk:x.kind=3∨x.kind=11∨x.kind=12):gH M x ls []=if x.kind=3 then jq M ls x.snap else(oq M x ls,M):=by
 unfold gH;rcases hk with hk|hk|hk<;>simp[hk]
theorem QV{M:dS}{x:jD}{ls:List Nm}(hk:x.kind=8∨x.kind=13):gH M x ls []=if x.kind=8 then r_ (gG M ls)else r_ (kS M ls x.aA):=by
 unfold gH;rcases hk with hk|hk<;>simp[hk]
theorem Oo{M:dS}{x:jD}(hk:x.kind=4∨x.kind=5∨x.kind=6):gH M x [] []=if x.kind=4 then(pQ M x,M)else if x.kind=5 then jA M x else r_ (jB M x):=by
 unfold gH;rcases hk with hk|hk|hk<;>simp[hk]
theorem QW{M:dS}{x:jD}(hk:x.kind=4∨x.kind=5∨x.kind=6)(h:∀b,jV M x.fd b=none):gH M x [] []=(bR 26,M):=by
 rw[Oo hk];unfold pQ jA jB;rw[h true,h false];rcases hk with hk|hk|hk<;>simp[hk]<;>rfl
theorem KD{M:dS}{n:Nat}(hn:n<8)(b:Bool):jV M n b=match M.fds n with|some f=>if f.wr=b then some f else none|none=>none:=by
 unfold jV;rw[if_pos (by omega),abK];rfl
theorem QX(T:aL)(ls:List Nm):aQ T ls=(aJ T 0 ls)∨(aQ T ls).2≠0:=by
 unfold aQ;split
 ·exact .inr (by assumption)
 ·exact .inl rfl
theorem Ef{T:aL}(hT:dG T){ls:List Nm}(h:(aQ T ls).2=0):∃y,aj (aQ T ls).1 T=some y∧(y.kind=1∨y.kind=2):=by
 rcases QX T ls with e|e
 ·rw[e]at h⊢;obtain⟨y,hy⟩:=aaf.1 (gL hT ls 0 (gu hT) h);exact⟨y,hy,(hT.each _ _ hy).kind⟩
 ·exact absurd h e
theorem Gi{M:dS}{ls:List Nm}{aA:Int}(hT:dG M.t):r_ (kS M ls aA)=if (aQ M.t ls).2≠0 then(bR (aQ M.t ls).2,M)else(bR (eX M.t (aQ M.t ls).1 aA).1,M.tr (eX M.t (aQ M.t ls).1 aA).2):=by
 by_cases h:(aQ M.t ls).2=0
 ·obtain⟨y,hy,hk⟩:=Ef hT h;have e:bU M.t ls=⟨(aQ M.t ls).1,y.kind,y.links,y.b.length,y.aA,y.closed,0⟩:=by unfold bU;rw[if_neg (by rw[h];simp),hy]
  rw[if_neg (by rw[h];simp)];unfold kS;rw[e];show r_ (if (0:Int)≠0 then _ else if nN y.kind y.aA y.closed aA≠0 then(nN y.kind y.aA y.closed aA,M)else((eX M.t (aQ M.t ls).1 aA).1,{M with t:=(eX M.t (aQ M.t ls).1 aA).2}))=_;rw[if_neg (by simp)];have e2:rM M.t (aQ M.t ls).1 aA=nN y.kind y.aA y.closed aA:=by
   unfold rM nN kindOf;rw[hy];rcases hk with hk|hk
   ·simp[hk]
   ·simp[hk]
  by_cases hz:nN y.kind y.aA y.closed aA=0
  ·rw[if_neg (by rw[hz];simp)];rfl
  ·rw[if_pos hz];unfold eX;rw[e2,if_neg hz];rfl
 ·rw[if_pos h];have e:bU M.t ls=⟨0,0,0,0,0,false,(aQ M.t ls).2⟩:=by unfold bU;rw[if_pos h]
  unfold kS;rw[e];show r_ (if (aQ M.t ls).2≠0 then((aQ M.t ls).2,M)else _)=_;rw[if_pos h];rfl
theorem KE{M:dS}{ls:List Nm}(hT:dG M.t){y:bP}(h:(aQ M.t ls).2=0)(hy:aj (aQ M.t ls).1 M.t=some y):r_ (gG M ls)=if y.kind=2 then(bR 22,M)else if y.closed=true∧y.links≤1∧M.now<y.aA then(bR 28,M)else(bR (bC M.t ls).1,M.tr (bC M.t ls).2):=by
 have hk:=(hT.each _ _ hy).kind;have e:bU M.t ls=⟨(aQ M.t ls).1,y.kind,y.links,y.b.length,y.aA,y.closed,0⟩:=by unfold bU;rw[if_neg (by rw[h];simp),hy]
 unfold gG;rw[e];show r_ (if (0:Int)≠0 then _ else if gY y.kind y.links y.aA y.closed M.now≠0 then(gY y.kind y.links y.aA y.closed M.now,M)else((bC M.t ls).1,{M with t:=(bC M.t ls).2}))=_;rw[if_neg (by simp)];rcases hk with hk|hk
 ·by_cases hc:y.closed=true∧y.links≤1∧M.now<y.aA
  ·have e2:gY y.kind y.links y.aA y.closed M.now=28:=by unfold gY;exact if_pos ⟨hk,hc⟩
   rw[e2,if_pos (by omega),if_neg (by omega),if_pos hc];rfl
  ·have e2:gY y.kind y.links y.aA y.closed M.now=0:=by
    unfold gY kindOf;rw[if_neg (fun q=>hc q.2),if_pos hk]
   rw[e2,if_neg (by omega),if_neg (by omega),if_neg hc];rfl
 ·have e2:gY y.kind y.links y.aA y.closed M.now=22:=by
   unfold gY kindOf;rw[if_neg (by omega),if_neg (by omega),if_pos hk]
  rw[e2,if_pos (by omega),if_pos hk];rfl
theorem M4{M:dS}{ls:List Nm}(h:(aQ M.t ls).2≠0):r_ (gG M ls)=(bR (aQ M.t ls).2,M):=by
 have e:bU M.t ls=⟨0,0,0,0,0,false,(aQ M.t ls).2⟩:=by unfold bU;rw[if_pos h]
 unfold gG;rw[e];show r_ (if (aQ M.t ls).2≠0 then((aQ M.t ls).2,M)else _)=_;rw[if_pos h];rfl
theorem AV(T:aL)(id:Int):∃(x0 x1 x2 x3 x4:Int) (x5:Bool),gq T id= .agg #[.int .i64 x0,.int .i64 x1,.int .i64 x2,.int .i64 x3,.int .u64 x4,.bool x5]∧eu ⟨0,0,[],[],(aj id T).map fun x=>(id,x)⟩ none none 0 0= #[.int .i64 0,.int .i64 0,.slice none 0 0,.slice none 0 0,.int .i64 x0,.int .i64 x1,.int .i64 x2,.int .i64 x3,.int .u64 x4,.bool x5]∧((aj id T=none∧x1=0∧x5=false)∨∃y,aj id T=some y∧x1=y.kind∧x2=y.links∧x3=y.b.length∧x4=y.aA∧x5=y.closed):=by
 cases h:aj id T with
 |none=>exact⟨0,0,0,0,0,false,by unfold gq;rw[h],rfl,.inl ⟨rfl,rfl,rfl⟩⟩
 |some y=>exact⟨id,y.kind,y.links,y.b.length,y.aA,y.closed,by unfold gq;rw[h];rfl,rfl,.inr ⟨y,rfl,rfl,rfl,rfl,rfl,rfl⟩⟩
open Go
theorem rJ{P:Program}{ops:Array Oper}{Q:Exit→Act→World→Prop}{md:Region.Mode}{S:World→Prop}(i:Nat){oi:Oper}{fuel:Nat}{listed l':Array Bool}{a a':Act}{w:World}
  (hS:S w)(h:wpAnyH P md ops Q S fuel l' a' w)
  (hi:ops[i]? =some oi:=by simp only[aaq,aav,aao];rfl)
  (hs:Region.noSelect ops=true:=by kernel_rfl)(hf:Region.free md ops listed i=true:=by kernel_rfl)(hr:(Region.ready md ops listed).contains i=true:=by kernel_rfl)
  (hQ:∀c a w,Q (.panic c) (a.put oi.dst undef) w→Q (.panic c) a w:=by exact fun _ _ _ h=>h)
  (hw:Region.wanted oi (yielded ops a.tmps)=false:=by rfl)
  (hl:listed.setIfInBounds i true=l':=by(try simp only[aas,aaN,aaU]);rfl)
  (ha:a.put oi.dst undef=a':=by(try simp only[Act.put,aas,aaN,aaU]);rfl)
  :wpAnyH P md ops Q S (fuel+1) listed a w:=
 wpAnyH_take hi hs hf hr hQ (Or.inr ⟨hw,rfl⟩) hS (by rw[hl,ha];exact h)
theorem vX{P:Program}{ops:Array Oper}{o:Oper}{a:Act}{w:World}{K:Act→World→Prop}{Q:Exit→Act→World→Prop}{E:Prop}(hgd:o.guard=none)(ty:TypeId)(x y:Operand)(ho:o.op= .store ty x y)
  (b j:Nat)(cells:Array Value)(hx:a.eval x= .pointer (some ⟨b,j,none⟩))(hy:a.eval y= .agg cells)
  (ht:w.there b j cells.size)(hi:(P.info? ty).map (·.size)=some cells.size)(h1:cells.all (·.oneCell')=true)
  (h:K (a.put o.dst undef) (w.setCells b j cells.toList)):if Region.wanted o (yielded ops a.tmps)=true then Oper.wp P o a w K Q else E:=by
 have hw:Region.wanted o (yielded ops a.tmps)=true:=by simp[Region.wanted,hgd]
 rw[if_pos hw];exact wp_store_mid ty x y ho b j cells hx hy ht hi h1 h
section
variable{W w w3 w4 w5:World}{o o1 o4:Mark}{i n p g:Nat}{M M':dS}
theorem tH.srep{ops:Array Oper}{oo:Oper}{a:Act}{K:Act→World→Prop}{Q:Exit→Act→World→Prop}{E:Prop}{x y:Operand}(h:tH W o i n w p g o1 w4 M)(r:rZ)(da la:Option Addr)(dc lc:Nat)
  (hn:∀w5,acB (jo w4 g (eu r da la dc lc) 41 w5)→K (a.put oo.dst undef) w5)
  (ho:oo.op= .store 41 x y:=by rfl)(hgd:oo.guard=none:=by rfl)(hx:a.eval x= .pointer (some ⟨g,0,none⟩):=by rfl)(hy:a.eval y= .agg (eu r da la dc lc):=by rfl):if Region.wanted oo (yielded ops a.tmps)=true then Oper.wp Tryz.prog oo a w4 K Q else E:=
 eU hgd _ _ _ ho g _ hx hy _ h.re bH rfl (bI _ _ _ _ _) fun w5 hs=>hn w5 (acA hs)
end
structure xM(w:World)(q:Nat)(T:aL):Prop where
 at_:∃F,jW F w q T
 ok:dG T
section
variable{w w':World}{q:Nat}{T:aL}
theorem xM.grow(h:xM w q T)(hb:Below w.heap.size w w'):xM w' q T:=by
 obtain⟨F,hF⟩:=h.at_;exact⟨⟨F,hF.below hb acC⟩,h.ok⟩
theorem iJ.tree{o:Mark}{j:Nat}(h:iJ o j w q T)(hT:dG T):xM w q T:=by
 obtain⟨F,hF,-⟩:=h;exact⟨⟨F,hF⟩,hT⟩
theorem xM.look{S:Nat→Prop}(h:xM w q T)(a:Option Addr)(n c:Nat)(ls:List Nm)(hS:aK S w a n (ls.map strOf)):Calls Tryz.prog 103 #[ptr q,.slice a n c] w fun e w'=>e= .returned (.tuple #[.int .i64 (aQ T ls).1,.int .i64 (aQ T ls).2])∧Below w.heap.size w w':=by
 obtain⟨F,hF⟩:=h.at_;exact AB a n c ls w hF h.ok (by have:=jw h.ok;omega) hS
theorem xM.node(h:xM w q T)(id:Int):Calls Tryz.prog 104 #[ptr q,.int .i64 id] w fun e w'=>e= .returned (.tuple #[gq T id,.bool (aj id T).isSome])∧Below w.heap.size w w':=by
 obtain⟨F,hF⟩:=h.at_;exact nu id w hF h.ok.toBJ
theorem xM.list(h:xM w q T)(id:Int):Calls Tryz.prog 105 #[ptr q,.int .i64 id] w (za w (mE T id)):=by
 obtain⟨F,hF⟩:=h.at_;exact F4 id w hF h.ok
end
theorem Vo{w:World}{q j:Nat}{T:aL}{o:Mark}(h:iJ o j w q T)(hT:dG T)(id:Int):Calls Tryz.prog 106 #[ptr q,.int .i64 id,.int .i64 0,.int .i64 4096] w fun e w'=>∃a n c,e= .returned (.tuple #[.slice a n c,.int .i64 (uJ T id 0 4096)])∧n≤c∧ah (Free o w) w a n ((jZ T id 0 4096).map bv)∧w=w':=by
 obtain⟨F,hF,h1,h2⟩:=h;refine(Qm id 0 4096 w hF hT.toBJ (by decide) (by decide)).mono ?_;rintro e w' ⟨a,n,c,he,hr,hw,hc⟩;exact⟨a,n,c,he,hc,hr.mono fun b hb=>⟨h2 b hb.1 hb.2,hF.low b hb.1⟩,hw⟩
theorem QY{T:aL}(hT:dG T){id:Int}{y:bP}(hy:aj id T=some y):jZ T id 0 4096=jZ T id 0 y.b.length:=by
 have:=(hT.each id y hy).size;unfold jZ;rw[hy];show(if y.kind=2 then[]else kU y.b 0 4096)=if y.kind=2 then[]else kU y.b 0 y.b.length;congr 1;unfold kU;rw[if_neg (by omega),if_neg (by omega)];rw[show((4096:Int)).toNat=4096 from rfl,abK,List.take_of_length_le (by simp;omega),List.take_of_length_le (by simp)]
theorem Eh(l:List UInt8)(f i:Nat)(hi:i<l.length)(hf:f≤i):l.drop f=(l.drop f).take (i-f)++l.getD i 0::l.drop (i+1):=by
 have h1:l.drop f=(l.drop f).take (i-f)++(l.drop f).drop (i-f):=(abg _ _).symm;have h2:(l.drop f).drop (i-f)=l.getD i 0::l.drop (i+1):=by
  rw[acz,show f+(i-f)=i by omega,aa2 hi];simp[List.getD,List.getElem?_eq_getElem hi]
 rw[h2]at h1;exact h1
theorem M5(l:List UInt8)(f i:Nat)(hi:i<l.length)(hf:f≤i)(hn:∀c∈(l.drop f).take (i-f),c≠47)(hc:l.getD i 0=47):bM (l.drop f)=(l.drop f).take (i-f)::bM (l.drop (i+1)):=by
 have h1:=Eh l f i hi hf;rw[hc]at h1;exact(aaT bM h1).trans (OG _ _ hn)
theorem KF(l:List UInt8)(f:Nat)(hf:f≤l.length)(hn:∀c∈(l.drop f).take (l.length-f),c≠47):bM (l.drop f)=[(l.drop f).take (l.length-f)]:=by
 have e:(l.drop f).take (l.length-f)=l.drop f:=List.take_of_length_le (by simp);rw[e]at hn⊢;exact AZ _ hn
theorem QZ(l:List UInt8)(f i:Nat)(hi:i<l.length)(hf:f≤i)(hn:∀c∈(l.drop f).take (i-f),c≠47)(hc:l.getD i 0≠47):∀c∈(l.drop f).take (i+1-f),c≠47:=by
 have e:(l.drop f).take (i+1-f)=(l.drop f).take (i-f)++[l.getD i 0]:=by
  rw[show i+1-f=(i-f)+1 by omega,abL,abx,show f+(i-f)=i by omega,List.getElem?_eq_getElem hi];simp[List.getD,List.getElem?_eq_getElem hi]
 intro c hcm;rw[e]at hcm;rcases aaL.1 hcm with h|h
 ·exact hn c h
 ·rw[List.mem_singleton.1 h];exact hc
theorem Ic(ls:List (List UInt8))(x:List UInt8)(hx:x∈ls)(hg:dO x=false):bg ls=12:=by
 unfold bg;rw[if_pos];rw[List.any_eq_true];exact⟨x,hx,by simp[hg]⟩
theorem Ie(ls:List (List UInt8))(hg:ls.all dO=true):bg ls=if 8<ls.length then 3 else 0:=by
 unfold bg;rw[if_neg];rw[List.any_eq_true];rintro ⟨x,hx,h⟩;rw[List.all_eq_true]at hg;simp[hg x hx]at h
theorem Ei:(Tryz.prog.info? 9).map (fun i=>(i.zero,i.size,i.bytes))=some (some (.string ByteArray.empty),1,16):=by kernel_rfl
def uF(l:List UInt8)(w:World)(v f i:Value)(wr:World):Prop:=
 ∃(a b:Nat) (ss:List ByteArray),f= .int .i64 a∧i= .int .i64 b∧wr.ownsRow w.heap.size 9 1 v ss.length (ss.map .string)∧Below w.heap.size w wr∧(BK ss).all dO=true∧(∀s∈ss,s.size≤maxLen)∧ss.length≤b∧1≤b∧
  ((b≤l.length∧a≤b∧bM (l.drop 1)=BK ss++bM (l.drop a)∧∀c∈(l.drop a).take (b-a),c≠47)∨(b=l.length+1∧a≤b∧bM (l.drop 1)=BK ss))
theorem KG(w:World)(v:Value)(t:TypeId):∀j u,([v]:List Value)[j]? =some u→(w.alloc (.cells #[v] t)).cell? ((⟨w.heap.size,0,none⟩:Addr).add j)=some u:=by
 intro j u h;cases j with
 |zero=>
  have hh:(w.alloc (.cells #[v] t)).heap[w.heap.size]? =some (.cells #[v] t):=(MapKept.heap_alloc w _).1;have e:(⟨w.heap.size,0,none⟩:Addr).add 0=⟨w.heap.size,0,none⟩:=rfl;rw[e];simp only[World.cell?,hh];simpa using h
 |succ j=>simp at h
theorem KH{w:World}{base:Nat}{e:TypeId}{size:Nat}{a:Option Addr}{n m cap:Nat}{xs:List Value}(h:w.ownsRow base e size (.slice a m cap) n xs):m≤cap:=by
 obtain⟨_,h⟩:=h;rcases h with⟨h,_⟩|⟨g,cap',cur,h,_,_,h2,_⟩
 ·simp only[aar]at h;omega
 ·simp only[aar]at h;omega
theorem qY(x y:List ByteArray):BK (x++y)=BK x++BK y:=by simp[BK]
theorem ET{w w1:World}{base:Nat}{e:TypeId}{size:Nat}{v:Value}{n:Nat}{xs:List Value}(h:w.ownsRow base e size v n xs)(hb:Below w.heap.size w w1):w1.ownsRow base e size v n xs:=
 h.kept (row:=none) ⟨hb.os,hb.tape,hb.output,hb.size,fun k hk _=>hb.block k hk⟩ (by cases v<;>simp[Value.ownBlock]<;>(rename_i a _ _;cases a<;>simp))
theorem yD(s:ByteArray)(w:World)(hs:s.size<4294967281):
  Calls Tryz.prog 42 #[.string s] w (DJ w s.data.toList):=by
 obtain⟨i0,hi,hz0,hz1,hz2⟩:=aap Ei;obtain⟨l,hl⟩:∃l,s.data.toList=l:=⟨_,rfl⟩;rw[hl];have hsl:s.size=l.length:=by rw[←hl];simp
 have hte:=abm s;rw[hl]at hte;have hby:∀k (h:k<s.size),s[k]=l.getD k 0:=fun k h=>by rw[J6 s k h,hl]
 have ways:(l=[47]∧aC l=([],0))∨(l=[]∧aC l=([],12))∨(0<l.length∧l≠[47]∧l.getD 0 0≠47∧aC l=([],12))∨
   (1<l.length∧l≠[47]∧l.getD 0 0=47∧aC l=if bg (bM (l.drop 1))=0 then(bM (l.drop 1),0)else([],bg (bM (l.drop 1)))):=by
  cases l with
  |nil=>exact Or.inr (Or.inl ⟨rfl,rfl⟩)
  |cons c r=>
   by_cases h:c=47
   ·subst h;by_cases hr:r=[]
    ·subst hr;exact Or.inl ⟨rfl,rfl⟩
    ·refine Or.inr (Or.inr (Or.inr ⟨?_,by simpa using hr,rfl,by simp[aC,hr]⟩));have:=List.length_pos_iff.2 hr;simp;omega
   ·exact Or.inr (Or.inr (Or.inl ⟨by simp,by simp[h],by simpa using h,by simp[aC,h]⟩))
 have Ej:∀(w':World) (k:Int),Below w.heap.size w w'→aC l=([],k)→DJ w l (.returned (.tuple #[.slice none 0 0,.int .i64 k])) w':=fun w' k hb h=>⟨none,0,0,[],by rw[h],by simp,by rw[h];rfl,⟨ah.nil _ _ _,by simp⟩,hb⟩;rcases ways with⟨h1,h2⟩|⟨h1,h2⟩|⟨h0,h1,h2,h3⟩|⟨h0,h1,h2,h3⟩
 ·have HP:=acA h2;subst h1;clear h2 hsl hby hl;go_enter Tryz.func42,Tryz.ntmps42;go_wp2
  go_ret2
  exact Ej _ _ acD HP.o
 ·have HP:=acA h2;subst h1;have hz:s.size=0:=hsl;clear h2 hsl hby hl;go_enter Tryz.func42,Tryz.ntmps42;go_wp2
  go_ret2
  exact Ej _ _ acD HP.o
 ·have HP:=acA h3;have e1:(s.toList==[47])=false:=by rw[hte];simpa using h1
  have e2:((s.size:Int)==0)=false:=abn.2 (by omega);have hp:0<s.size:=by omega
  have e3:=hby 0 hp;obtain⟨c,hc⟩:∃c,c=l.getD 0 0:=⟨_,rfl⟩;rw[←hc]at e3 h2;have e4:((c.toNat:Int) !=47)=true:=by
   rw[bne_iff_ne];intro e;apply h2;rw[←abF];show c.toNat=47;omega
  clear h1 h2 h3 hsl hby hl hte hc;go_enter Tryz.func42,Tryz.ntmps42;go_wp2
  go_ret2
  exact Ej _ _ acD HP.o
 ·have HP:=acA h3;have e1:(s.toList==[47])=false:=by rw[hte];simpa using h1
  have e2:((s.size:Int)==0)=false:=abn.2 (by omega);have hp:0<s.size:=by omega
  have e3:=hby 0 hp;rw[h2]at e3;have Vp:=acA hby;have HSL:=acA hsl;have hpl:∀a b:Nat,(s.extract a b).data.toList=(l.drop a).take (b-a):=fun a b=>by rw[Lib.extract_data,hl]
  have wY:=acA hpl;clear h1 h2 h3 hsl hby hl hte hpl;go_enter Tryz.func42,Tryz.ntmps42;go_wp2
  go_loopw [4,5,6] (uF l w) (fun _ _ i _=>l.length+1-(intOf i).toNat)
  case atStart=>exact⟨1,1,[],rfl,rfl,World.ownsRow_nil _ _ _ _,Below.refl _ _,rfl,by simp,by simp,by omega,Or.inl ⟨by omega,by omega,rfl,by simp⟩⟩
  case round=>
   obtain⟨a,b,ss,rfl,rfl,hown,hb,hall,hsh,hle,hb1,hcase⟩:=hrel;have Ht:=acA hall;have LP:=acA hsh;clear hall hsh;have hbs:ss.length≤4294967282:=by have:=HSL.o;rcases hcase with h|h<;>omega
   rcases hcase with⟨hbl,hab,hsp,hno⟩|⟨hbl,hab,hsp⟩
   ·have hbl':b≤s.size:=by have:=HSL.o;omega
    have jg:=acA hsp;have zM:=acA hno;clear hsp hno;by_cases hcut:b=l.length∨l.getD b 0=47
    ·have hsplit:acB (bM (l.drop a)=(l.drop a).take (b-a)::(if b=l.length then[]else bM (l.drop (b+1)))):=by
      by_cases hbe:b=l.length
      ·subst hbe;rw[if_pos rfl];exact KF l a hab zM.o
      ·rw[if_neg hbe];exact M5 l a b (by omega) hab zM.o (by rcases hcut with h|h;exact absurd h hbe;exact h)
     have hpsz:(s.extract a b).size≤maxLen:=by
      have:(s.extract a b).size≤s.size:=by simp[ByteArray.size_extract];omega
      unfold maxLen;omega
     have hone:acB (BK [s.extract a b]=[(l.drop a).take (b-a)]):=by
      show BK [s.extract a b]=_;simp only[BK,aaA,abb];rw[wY.o]
     have hnext:acB (dO ((l.drop a).take (b-a))=true→∀(v:Value) (w2:World),w2.ownsRow w.heap.size 9 1 v (ss.length+1) (ss.map Value.string++[.string (s.extract a b)])→Below w.heap.size w w2→uF l w v (.int .i64 ((b:Int)+1)) (.int .i64 ((b:Int)+1)) w2):=by
      intro hg v w2 ho hbw;refine⟨b+1,b+1,ss++[s.extract a b],by go_num,by go_num,by simpa using ho,hbw,?_,?_,by simp;omega,by omega,?_⟩
      ·rw[qY,hone.o,List.all_append,Ht.o,List.all_cons,hg];rfl
      ·intro x hx;rcases aaL.1 hx with hx|hx
       ·exact LP.o x hx
       ·rw[List.mem_singleton.1 hx];exact hpsz
      ·by_cases hbe:b=l.length
       ·refine Or.inr ⟨by omega,Nat.le_refl _,?_⟩;have h5:=hsplit.o;rw[if_pos hbe]at h5;rw[jg.o,h5,qY,hone.o]
       ·refine Or.inl ⟨by omega,Nat.le_refl _,?_,by simp⟩;have h5:=hsplit.o;rw[if_neg hbe]at h5;rw[jg.o,h5,qY,hone.o,aau];rfl
     have hbad:acB (dO ((l.drop a).take (b-a))=false→aC l=([],12)):=by
      intro hg;have h5:=hsplit.o;have h6:(l.drop a).take (b-a)∈bM (l.drop 1):=by
       rw[jg.o,h5];simp
      have h7:=Ic _ _ h6 hg;rw[HP.o,h7];rfl
     have Zz:(((b:Int)==(s.size:Int))=true)∨(((b:Int)==(s.size:Int))=false∧∃h:b<s.size,s[b]=47):=by
      have:=HSL.o;by_cases hbe:b=l.length
      ·left;simp;omega
      ·right;refine⟨abn.2 (by omega),by omega,?_⟩;rw[Vp.o b (by omega)];rcases hcut with h|h
       ·exact absurd h hbe
       ·exact h
     have hgp:dO (s.extract a b).data.toList=dO ((l.drop a).take (b-a)):=by rw[wY.o]
     have HGP:=acA hgp;clear hcut hgp;cases hg:dO ((l.drop a).take (b-a))
     ·have HG:acB (dO (s.extract a b).data.toList=false):=by rw[HGP.o];exact hg
      have HB:=hbad.o hg;have HB2:=acA HB;clear hg HB hnext hbad;rcases Zz with hc|⟨hc,hlt,hc2⟩
      all_goals
       go_wp2_with fail;refine(AA _ _ hpsz).mono ?_;rintro e w1 ⟨rfl,hb2⟩;rw[HG.o];go_wp2_with fail
       go_ret2
       exact Ej _ _ (hb.trans (hb2.mono hb.size)) HB2.o
     ·have HG:acB (dO (s.extract a b).data.toList=true):=by rw[HGP.o];exact hg
      have HN:acB (∀(v:Value) (w2:World),w2.ownsRow w.heap.size 9 1 v (ss.length+1) (ss.map Value.string++[.string (s.extract a b)])→Below w.heap.size w w2→uF l w v (.int .i64 ((b:Int)+1)) (.int .i64 ((b:Int)+1)) w2):=hnext.o hg;clear hg hnext hbad;rcases Zz with hc|⟨hc,hlt,hc2⟩
      all_goals
       go_wp2_with fail;refine(AA _ _ hpsz).mono ?_;rintro e w1 ⟨rfl,hb2⟩;rw[HG.o];have hown1:=ET hown hb2;have hb3:=hb.trans (hb2.mono hb.size);have hz3:=hb3.size;go_wp2_with (at_builtin;refine wpList_append_own _ rfl _ _ 26 rfl w.heap.size 9 i0 (.string ByteArray.empty) 1 16 Tryz.underlying26 hi hz0 hz1 hz2 rfl (by decide) _ _ _ rfl (hown1.alloc _) ⟨w1.heap.size,0,none⟩ 1 1 [.string (s.extract a b)] rfl rfl (KG _ _ _) (by simp[Value.oneCell']) (by unfold maxLen;omega) (by omega) (by simp;omega) ?_;intro v' w2 hown2 hgrow _);go_roundw
       case rel=>exact HN.o v' w2 (by simpa using hown2) ((hb3.alloc hz3 _).grown hgrow (by simp;omega) (fun k hk=>(hown1.lt k hk).1))
       case measure=>simp[intOf];omega
    ·have hlt:b<s.size:=by have:=HSL.o;omega
     have hc:((b:Int)==(s.size:Int))=false:=abn.2 (by omega);have hne:l.getD b 0≠47:=fun e=>hcut (Or.inr e);have hxb:=Vp.o b hlt;obtain⟨c,hcc⟩:∃c,c=l.getD b 0:=⟨_,rfl⟩;rw[←hcc]at hxb hne;have e4:((c.toNat:Int)==47)=false:=by
      rw[abn];intro e;apply hne;rw[←abF];show c.toNat=47;omega
     have HNO2:acB (∀c∈(l.drop a).take (b+1-a),c≠47):=QZ l a b (by have:=HSL.o;omega) hab zM.o (by rw[←hcc];exact hne);clear hcut hcc hne;go_wp2;go_roundw
     case rel=>exact⟨a,b+1,ss,rfl,by go_num,hown,hb,Ht.o,LP.o,by omega,by omega,Or.inl ⟨by have:=HSL.o;omega,by omega,jg.o,HNO2.o⟩⟩
     case measure=>simp[intOf];omega
   ·have hge:¬(b:Int)≤(s.size:Int):=by have:=HSL.o;omega
    have jg:=acA hsp;clear hsp;obtain⟨a1,ZJ,rfl,hS⟩:=I8 hown LP.o;have hcap:=KH hown;have hlen:(bM (l.drop 1)).length=ss.length:=by rw[jg.o,N_]
    have hfin:=Ie (bM (l.drop 1)) (by rw[jg.o];exact Ht.o);rw[hlen]at hfin;by_cases h8:8<ss.length
    ·have HR:acB (aC l=([],3)):=by
      show aC l=_;rw[HP.o,hfin,if_pos h8];rfl
     have h8':(8:Int)<(ss.length:Int):=by omega
     clear hlen hfin;go_wp2
     go_ret2
     exact Ej _ _ hb HR.o
    ·have HR:acB (aC l=(BK ss,0)):=by
      show aC l=_;rw[HP.o,hfin,if_neg h8,jg.o];rfl
     clear hlen hfin;go_wp2
     go_ret2
     exact⟨a1,ss.length,ZJ,ss,by rw[HR.o];rfl,hcap,by rw[HR.o],hS,hb⟩
theorem tJ{M:dS}{x:jD}(hk:x.kind=4∨x.kind=5∨x.kind=6∨x.kind=14∨x.kind=15∨x.kind=16∨x.kind=17):dH M x=gH M x [] []:=by
 have e:eO x=([],0):=by
  unfold eO zq;rw[if_pos (by omega),if_neg (by omega),if_neg (by omega)];rfl
 unfold dH;rw[e];rfl
theorem zH(k:Int)(hk:Vm k=false∧1≤k∧k≤17)(w:World):Calls Tryz.prog 41 #[.int .i64 k] w fun e w'=>e= .returned (.bool false)∧Below w.heap.size w w':=by
 have:=Gg k hk.2 w
 rwa [hk.1]at this
theorem KI(k:Int)(hk:Vm k=true∧1≤k∧k≤17)(w:World):Calls Tryz.prog 41 #[.int .i64 k] w fun e w'=>e= .returned (.bool true)∧Below w.heap.size w w':=by
 have:=Gg k hk.2 w
 rwa [hk.1]at this
structure NmS(S:Nat→Prop)(w:World)(q:List Nm)(a:Option Addr)(n c:Nat):Prop where
 len:n=q.length
 few:n≤8
 cap:n≤c
 strs:aK S w a n (q.map strOf)
theorem M6{w w':World}{l:List UInt8}{a:Option Addr}{n c:Nat}{ss:List ByteArray}(h0:(aC l).2=0)(hc:n≤c)(hb:BK ss=(aC l).1)(hS:aK (xB w.heap.size) w' a n ss):NmS (xB w.heap.size) w' (aC l).1 a n c:=by
 have e:ss=(aC l).1.map strOf:=by rw[←hb,Oa]
 have hl:n=(aC l).1.length:=by rw[←hS.length,e,List.length_map]
 refine⟨hl,by rw[hl];exact wQ h0,hc,?_⟩;rw[←e];exact hS
theorem NmS.below{S:Nat→Prop}{w w':World}{B:Nat}{q:List Nm}{a:Option Addr}{n c:Nat}(h:NmS S w q a n c)(hb:Below w.heap.size w w'):NmS S w' q a n c:=⟨h.len,h.few,h.cap,h.strs.below hb acC⟩
section
variable{W w:World}{o:Mark}{i p:Nat}{M:dS}{cc:Int}
theorem Q0(x:jD)(hx:lY x)(hk:¬(1≤x.kind∧x.kind≤17))(hi:0<i)(hS:kT o i w p M)(hM:Marks W o w)(hok:gK cc M)(hcc:cc≤1000000000)(da:Option Addr)(dc:Nat)(hda:ah (Free o w) w da x.data.length (x.data.map bv))(hdl:x.data.length≤1000000):
  Calls Tryz.prog 14 #[ptr p,.agg (opC x da dc)] w (uZ o i (i+4) w p (dH M x)):=by
 obtain⟨o1,w2,hw2,hr,hz,hb⟩:=kN hi (n:=i+4) ⟨by omega,by omega⟩ hS hM x da dc;have HW:=acA hw2;unfold opC eu bR at HW;dsimp only[List.length_nil]at HW;have HR:=acA hr;have HZ:=acA hz;have HB:=acA hb;have HI:=acA hi;have HX:=acA hx;have u_:=acA hk;have iM:=acA hok;have Ez:=acA hcc;have jE:=acA hda;have xS:=acA hdl;clear hx hk hok hcc hda hdl;clear hw2 hr hz hb hS hM hi;unfold opC;go_enter ab1,abV;go_upto_region 1 with(fail);rw[←HW.o];clear HW;have fq:acB (dH M x=(bR 30,M)):=by
  show _=_;have e:eO x=([],30):=if_neg u_.o;unfold dH;rw[e];rfl
 obtain⟨z0,-,-,-,-,-,-,-,-⟩:=HZ.o.cells;by_cases h1:x.kind<1
 ·have h2:decide (x.kind<1)=true:=by simpa using h1
  clear h1;go_wp2_with fail;refine(dR _ _).mono ?_;rintro e w9 ⟨rfl,cO⟩;unfold mG;have fQ:=acA (HR.o.grow cO);clear cO;go_wp2_with (refine fQ.o.rep (bR 30) none none 0 0 ?_;intro w5 dB);exact fQ.o.jF dB (fq.o)
 ·have h2:decide (x.kind<1)=false:=by simpa using h1
  have h3:decide (17<x.kind)=true:=by have:=u_.o;simp;omega
  clear h1;go_wp2_with fail;refine(dR _ _).mono ?_;rintro e w9 ⟨rfl,cO⟩;unfold mG;have fQ:=acA (HR.o.grow cO);clear cO;go_wp2_with (refine fQ.o.rep (bR 30) none none 0 0 ?_;intro w5 dB);exact fQ.o.jF dB (fq.o)
end
section
variable{W w:World}{o:Mark}{i p:Nat}{M:dS}
theorem YD{S:Nat→Prop}(x:jD)(kd:Int)(hxk:x.kind=kd)(hkd:kd=1∨kd=2)(hi:0<i)(hS:kT o i w p M)(hM:Marks W o w)(hok:dG M.t)(a:Option Addr)(n c:Nat)(ls:List Nm)(hls:aK S w a n (ls.map strOf))(hnc:n≤c)(lF:n≤1000000):
  Calls Tryz.prog 43 #[ptr p,.int .i64 kd,.slice a n c] w (uZ o i (i+3) w p (gH M x ls [])):=by
 obtain⟨o1,hr,-⟩:=tH.start hi (n:=i+3) ⟨by omega,by omega⟩ hS hM acD;obtain⟨w2,hw2⟩:∃w2,w2=w.alloc (.cells (eu (bR 0) none none 0 0) 41):=⟨_,rfl⟩;have hb2:Below w.heap.size w w2:=by rw[hw2];exact wall w _
 rw[←hw2]at hr;have HW:=acA hw2;unfold eu bR at HW;dsimp only[List.length_nil]at HW;have HR:=acA hr;have K5:=acA (hls.below hb2 acC);have iM:=acA hok;have TU:=acA (fun t kk (h:iJ o1 (i+1) w2 t M.t)=>X3 h HR.o.marks iM.o a n c ls kk K5.o hnc lF);clear hw2 hr hb2 hS hM hls hok;rcases hkd with rfl|rfl
 ·have fq:acB (gH M x ls []=jP M ls):=acA (if_pos hxk);clear hxk;go_enter Tryz.func43,Tryz.ntmps43;go_upto_region 1 with(fail);rw[←HW.o];clear HW;go_wp2_with fail;refine(Gh HR.o.st).mono ?_;rintro e w3 ⟨v,rfl,hfr,rfl⟩;have hv:=hfr.eq;rcases hfr with⟨rfl,hfull⟩|⟨m,Gw,rfl,hfm,hfl⟩
  ·have HV:=acA hv;clear hv hfull;go_wp2_with fail;refine(dR _ _).mono ?_;rintro e w9 ⟨rfl,cO⟩;unfold mG;have fQ:=acA (HR.o.grow cO);clear cO;go_wp2_with (refine fQ.o.rep (bR 25) none none 0 0 ?_;intro w5 dB);exact fQ.o.jF dB (fq.o.trans (if_pos (by rw[←HV.o];omega)))
  ·have HV:=acA hv;have hd:decide ((m:Int)<0)=false:=by simp
   obtain⟨t,z0,hT,htr⟩:=HR.o.qQ;obtain⟨mm,hmm⟩:∃mm,mm=b_ M.t ls 1:=⟨_,rfl⟩;have HC:=acA (TU.o t 1 hT);have HS2:acB (jP M ls=if mm.1.2≠0 then(bR mm.1.2,M.tr mm.2)else(⟨0,m,[],[],none⟩,dS.put (M.tr mm.2) m (some ⟨true,mm.1.1,[]⟩))):=by
    rw[hmm];exact(if_neg (by rw[←HV.o];omega)).trans (by rw[←HV.o];rfl)
   rw[←hmm]at HC;have tY:=acA htr;have hm0:(0:Int)≤m:=by omega
   have hm1:(m:Int)<8:=by omega
   clear hmm hT htr hv hfm hfl TU;go_wp2_with fail;refine HC.o.mono ?_;rintro e w4 ⟨rfl,o4,hs4,kV⟩;have HR4:=acA (tY.o _ _ _ hs4 kV).1;clear hs4 kV HC z0 tY;by_cases hz:mm.1.2=0
   ·have HZ:=acA hz;have hz2:(mm.1.2 !=0)=false:=by simpa using hz
    obtain⟨u0,u1,u2,d0,d1,d2,dz,hput⟩:=HR4.o.put3 m Gw (.int .i64 1) (.int .i64 mm.1.1) (.slice none 0 0) (some ⟨true,mm.1.1,[]⟩) ⟨rfl,rfl,none,0,rfl,Nat.le_refl _,ah.nil _ _ _⟩;have qm:=acA hput;clear hz hput;go_wp2_with (refine qm.o.rep ⟨0,m,[],[],none⟩ none none 0 0 ?_;intro w5 dB);exact qm.o.jF dB (fq.o.trans (HS2.o.trans (if_neg (fun h=>h HZ.o))))
   ·have HZ:=acA hz;have hz2:(mm.1.2 !=0)=true:=by simpa using hz
    clear hz;go_wp2_with fail;refine(dR _ _).mono ?_;rintro e w9 ⟨rfl,cO⟩;unfold mG;have fQ:=acA (HR4.o.grow cO);clear cO;go_wp2_with (refine fQ.o.rep (bR mm.1.2) none none 0 0 ?_;intro w5 dB);exact fQ.o.jF dB (fq.o.trans (HS2.o.trans (if_pos HZ.o)))
 ·have fq:acB (gH M x ls []=(bR (b_ M.t ls 2).1.2,M.tr (b_ M.t ls 2).2)):=acA ((if_neg (by omega)).trans (if_pos hxk));clear hxk;obtain⟨t,z0,hT,htr⟩:=HR.o.qQ;obtain⟨mm,hmm⟩:∃mm,mm=b_ M.t ls 2:=⟨_,rfl⟩;have HC:=acA (TU.o t 2 hT);rw[←hmm]at HC fq;have tY:=acA htr;clear hmm hT htr TU;go_enter Tryz.func43,Tryz.ntmps43;go_upto_region 1 with(fail);rw[←HW.o];clear HW;go_wp2_with fail;refine HC.o.mono ?_;rintro e w4 ⟨rfl,o4,hs4,kV⟩;have HR4:=acA (tY.o _ _ _ hs4 kV).1;clear hs4 kV HC z0 tY;go_wp2_with fail;refine(dR _ _).mono ?_;rintro e w9 ⟨rfl,cO⟩;unfold mG;have fQ:=acA (HR4.o.grow cO);clear cO;go_wp2_with (refine fQ.o.rep (bR mm.1.2) none none 0 0 ?_;intro w5 dB);exact fQ.o.jF dB (fq.o)
end
section
variable{W w:World}{o:Mark}{i p:Nat}{M:dS}{cc:Int}
theorem YE{S:Nat→Prop}(x:jD)(hk:x.kind=3∨x.kind=11∨x.kind=12)(hi:0<i)(hS:kT o i w p M)(hM:Marks W o w)(hok:gK cc M)(da:Option Addr)(dc:Nat)(a:Option Addr)(n c:Nat)(ls:List Nm)(hls:aK S w a n (ls.map strOf)):
  Calls Tryz.prog 44 #[ptr p,.agg (opC x da dc),.slice a n c] w (uZ o i (i+3) w p (gH M x ls [])):=by
 obtain⟨o1,w2,hw2,hr,hz,hb⟩:=kN hi (n:=i+3) ⟨by omega,by omega⟩ hS hM x da dc;have HW:=acA hw2;unfold opC eu bR at HW;dsimp only[List.length_nil]at HW;have HR:=acA hr;have HZ:=acA hz;have HB:=acA hb;have HI:=acA hi;have K5:=acA (hls.below hb acC);have iM:=acA hok;have u_:=acA hk;clear hls hok hk;clear hw2 hr hz hb hS hM hi;unfold opC;go_enter Tryz.func44,Tryz.ntmps44;go_upto_region 1 with(fail);rw[←HW.o];clear HW;obtain⟨z0,z1,z2,z3,z4,z5,z6,z7,z8⟩:=HZ.o.cells;obtain⟨t,s,c0,c1,c2,hT,hSn,-⟩:=HR.o.DK;have MJ:=acA (Vn (hSn.grow HR.o.marks (Below.refl w2.heap.size w2).drew) (by have:=iM.o.s.few;omega) x.snap);have HRT:=acA hT;clear z1 z2 z3 z4 z5 z6 z8 c2 hSn hT;go_upto_if 25 with(fail)
 go_cut [7] (fun v wx=>∃q T mk,v=ptr q∧jc M x.snap=some T∧iJ o1 mk wx q T∧dG T∧Below w2.heap.size w2 wx)
 case first=>
  by_cases hsn:x.snap=0
  ·have hs2:(x.snap !=0)=false:=by simpa using hsn
   have RD:=acA hsn;clear hsn;go_wp2_with fail
   go_meet
   exact⟨t,M.t,i+1,rfl,by unfold jc;rw[if_pos RD.o],HRT.o,iM.o.t.1,Below.refl _ _⟩
  ·have hs2:(x.snap !=0)=true:=by simpa using hsn
   have RD:=acA hsn;clear hsn;go_wp2_with fail;refine yG ((fun w'=>w'.cell? ⟨p,1,none⟩=some (ptr s)∧w'.cell? ⟨w.heap.size,7,none⟩=some (.int .i64 x.snap))) ?_ fun hS=> ?_
   ·exact⟨c1,z7⟩
   refine aP 0 hS ?_;refine aP 1 hS ?_;refine aP 2 hS ?_;refine aP 3 hS ?_;refine aP 4 hS ?_;refine aP 5 hS ?_;refine qh 6 fun K hK=> ?_;go_simp;refine MJ.o.mono ?_;rintro e w3 ⟨Qt,hg⟩;have hb3:Below w2.heap.size w2 w3:=acD.drew.trans Qt;have HB3:=acA hb3;have HR3:=acA (HR.o.grow hb3);have IE:=acA (And.intro ((hb3.cell (aag w2 _ c1)).trans c1) ((hb3.cell (aag w2 _ z7)).trans z7));clear hb3 Qt MJ;rcases hg with⟨hf,rfl⟩|⟨y,q,hf,rfl,hq,hoq⟩
   ·have HF:acB (jc M x.snap=none):=by
     show jc M x.snap=none;unfold jc;rw[if_neg RD.o,hf];rfl
    have fq:acB (gH M x ls []=(bR 29,M)):=by
     show _=_;rw[AU u_.o];unfold jq oq;rw[HF.o];exact ite_self _
    clear hf;go_wp2_with fail;refine pW hK (IE.o) fun hS=> ?_;clear hK K;refine aP 7 hS ?_;refine aP 8 hS ?_;refine aP 9 hS ?_;refine aP 10 hS ?_;refine aP 11 hS ?_;refine xW ?_;go_wp2_with fail;refine(dR _ _).mono ?_;rintro e w9 ⟨rfl,cO⟩;unfold mG;have fQ:=acA (HR3.o.grow cO);clear cO;go_wp2_with (refine fQ.o.rep (bR 29) none none 0 0 ?_;intro w5 dB);exact fQ.o.jF dB (fq.o)
   ·have HF:=acA hf;have HQ:=acA (And.intro hq hoq);clear hf hq hoq;go_wp2_with fail;refine pW hK (IE.o) fun hS=> ?_;clear hK K;refine aP 7 hS ?_;refine aP 8 hS ?_;refine aP 9 hS ?_;refine aP 10 hS ?_;refine aP 11 hS ?_;refine xW ?_;go_wp2_with fail
    go_meet
    refine⟨q,y.t,0,rfl,?_,HQ.o.1,HQ.o.2,HB3.o⟩;unfold jc;rw[if_neg RD.o,HF.o];rfl
 case rest=>
  obtain⟨q,T,mk,rfl,hta,hq,hoT,hb3⟩:=hcut;obtain⟨w3,rfl⟩:∃w3:World,w3=wc:=⟨_,rfl⟩;have HTA:=acA hta;have HQ:=acA hq;have TY:=acA hoT;have HR3:=acA (HR.o.grow hb3);have HZ3:=acA (HZ.o.grow hb3);have HLS3:=acA (K5.o.below hb3 acC);have tY:=acA (hq.tree hoT);clear z0 z7 c0 c1 hta hq hoT hb3 HR HZ K5 MJ HRT;go_wp2_with fail;refine(Gh HR3.o.st).mono ?_;rintro e w4 ⟨v,rfl,hfr,rfl⟩;have HV:=acA hfr.eq;have HFR:=acA hfr;clear hfr;obtain⟨z0,-,-,-,-,-,-,-,-⟩:=HZ3.o.cells;obtain⟨ki,hki⟩:∃ki,ki=(aQ T ls).1:=⟨_,rfl⟩;obtain⟨ke,hke⟩:∃ke,ke=(aQ T ls).2:=⟨_,rfl⟩;have mg:=acA (tY.o.look a n c ls HLS3.o);rw[←hki,←hke]at mg;have Yq:=acA hki;have YF:=acA hke;clear hki hke;by_cases hk3:x.kind=3
  ·have hk3b:(x.kind==3)=true:=by simpa using hk3
   have hkz:x.kind=3:=hk3;rw[hk3]at z0;have HK3:=acA hk3;have fq:acB (gH M x ls []=if v<0 then(bR 25,M)else Du M T ls):=by
    show _=_;rw[AU u_.o,if_pos HK3.o,HV.o];unfold jq;rw[HTA.o]
   clear hk3 hkz hk3b;by_cases hv0:v<0
   ·have hv2:decide (v<0)=true:=by simpa using hv0
    have HV0:=acA hv0;clear hv0;go_wp2_with fail;refine(dR _ _).mono ?_;rintro e w9 ⟨rfl,cO⟩;unfold mG;have fQ:=acA (HR3.o.grow cO);clear cO;go_wp2_with (refine fQ.o.rep (bR 25) none none 0 0 ?_;intro w5 dB);exact fQ.o.jF dB (fq.o.trans (if_pos HV0.o))
   ·have hv2:decide (v<0)=false:=by simpa using hv0
    have HS2:=acA (fq.o.trans (if_neg hv0));have hvm:∃m:Nat,m<8∧v=m:=by
     rcases HFR.o with⟨h1,-⟩|⟨m,h1,h2,-⟩
     ·omega
     ·exact⟨m,h1,h2⟩
    obtain⟨m,Gw,rfl⟩:=hvm;unfold Du at HS2;rw[←Yq.o,←YF.o]at HS2;clear hv0 fq;go_wp2_with fail;refine mg.o.mono ?_;rintro e w5 ⟨rfl,hb5⟩;have mP:=acA (HR3.o.grow hb5);have Zr:=acA (HQ.o.grow hb5);have JM:=acA (HZ3.o.grow hb5);have uT:=acA ((tY.o.grow hb5).node ki);clear hb5 mg;by_cases hz:ke=0
    ·have BQ:=acA hz;have hz2:(ke !=0)=false:=by simpa using hz
     obtain⟨x0,x1,x2,x3,x4,x5,hnm,-,hcase⟩:=AV T ki;rw[hnm]at uT;have EB:=acA hcase;clear hz hnm hcase;go_wp2_with fail;refine uT.o.mono ?_;rintro e w6 ⟨rfl,hb6⟩;have vY:Below w5.heap.size w5 (w6.alloc (.cells #[.int .i64 x0,.int .i64 x1,.int .i64 x2,.int .i64 x3,.int .u64 x4,.bool x5] 39)):=hb6.trans ((wall w6 _).mono hb6.size);have Gj:=(MapKept.heap_alloc w6 (.cells #[.int .i64 x0,.int .i64 x1,.int .i64 x2,.int .i64 x3,.int .u64 x4,.bool x5] 39)).1;go_upto_region 14 with(fail);generalize w6.alloc (.cells #[.int .i64 x0,.int .i64 x1,.int .i64 x2,.int .i64 x3,.int .u64 x4,.bool x5] 39)=w7 at*;obtain⟨g7,KJ⟩:∃g7,g7=w6.heap.size:=⟨_,rfl⟩;rw[←KJ]at Gj⊢;clear KJ;have Gd:=acA (mP.o.grow vY);have HQ7:=acA (Zr.o.grow vY);obtain⟨zz,-,-,-,-,-,-,-,-⟩:=(JM.o.grow vY).cells;rw[HK3.o]at zz;have n1:w7.cell? ⟨g7,1,none⟩=some (.int .i64 x1):=by simp[World.cell?,Gj]
     have n5:w7.cell? ⟨g7,5,none⟩=some (.bool x5):=by simp[World.cell?,Gj]
     have uY:=acA (Vo HQ7.o TY.o ki);have HST:acB ((x1=2∧gH M x ls []=(bR 22,M))∨(x1≠2∧x5=false∧gH M x ls []=(bR 25,M))∨(x1≠2∧x5=true∧gH M x ls []=(⟨0,m,[],[],none⟩,M.put m (some ⟨false,0,jZ T ki 0 4096⟩)))):=by
      show _∨_∨_;have h2:=HS2.o;rw[if_neg (by rw[BQ.o];simp)]at h2;rcases EB.o with⟨e1,e2,e3⟩|⟨y,e1,e2,-,-,-,e6⟩
      ·rw[e1]at h2;exact .inr (.inl ⟨by omega,e3,h2⟩)
      ·rw[e1]at h2;by_cases hy:y.kind=2
       ·exact .inl ⟨by omega,h2.trans (if_pos hy)⟩
       ·refine .inr ?_;have h3:=h2.trans (if_neg hy);cases hc:y.closed with
        |false=>exact .inl ⟨by omega,by rw[e6,hc],h3.trans (if_pos hc)⟩
        |true=>
         refine .inr ⟨by omega,by rw[e6,hc],(h3.trans (if_neg (by rw[hc];simp))).trans ?_⟩;rw[QY TY.o e1,←HV.o];rfl
     clear hb6 vY Gj uT mP Zr JM EB HS2;rcases HST.o with⟨q1,q2⟩|⟨q1,q2,q3⟩|⟨q1,q2,q3⟩
     ·have qZ:=acA q2;subst q1;clear q2 HST;go_wp2_with fail;refine(dR _ _).mono ?_;rintro e w9 ⟨rfl,cO⟩;unfold mG;have fQ:=acA (Gd.o.grow cO);clear cO;go_wp2_with (refine fQ.o.rep (bR 22) none none 0 0 ?_;intro w5 dB);exact fQ.o.jF dB (qZ.o)
     ·have qZ:=acA q3;have q1b:(x1==2)=false:=by simpa using q1
      subst q2;clear q3 q1 HST;go_wp2_with fail;refine(dR _ _).mono ?_;rintro e w9 ⟨rfl,cO⟩;unfold mG;have fQ:=acA (Gd.o.grow cO);clear cO;go_wp2_with (refine fQ.o.rep (bR 25) none none 0 0 ?_;intro w5 dB);exact fQ.o.jF dB (qZ.o)
     ·have qZ:=acA q3;have q1b:(x1==2)=false:=by simpa using q1
      subst q2;have hm0:(0:Int)≤m:=by omega
      have hm1:(m:Int)<8:=by omega
      clear q3 q1 HST;go_wp2_with fail;refine uY.o.mono ?_;rintro e w8 ⟨ra,rn,rc,rfl,hrc,hrow,rfl⟩;have hrl:=hrow.length;rw[List.length_map]at hrl;subst hrl;obtain⟨u0,u1,u2,d0,d1,d2,dz,hput⟩:=Gd.o.put3 m Gw (.int .i64 2) (.int .i64 0) (.slice ra (jZ T ki 0 4096).length rc) (some ⟨false,0,jZ T ki 0 4096⟩) ⟨rfl,rfl,ra,rc,rfl,hrc,hrow⟩;obtain⟨rl,hrl2⟩:∃rl,rl=(jZ T ki 0 4096).length:=⟨_,rfl⟩;rw[←hrl2]at hput⊢;have qm:=acA hput;clear hrow hrc uY hrl2 hput;go_wp2_with (refine qm.o.rep ⟨0,m,[],[],none⟩ none none 0 0 ?_;intro w9 dB);exact qm.o.jF dB qZ.o
    ·have BQ:=acA hz;have hz2:(ke !=0)=true:=by simpa using hz
     clear hz;go_wp2_with fail;refine(dR _ _).mono ?_;rintro e w9 ⟨rfl,cO⟩;unfold mG;have fQ:=acA (mP.o.grow cO);clear cO;go_wp2_with (refine fQ.o.rep (bR ke) none none 0 0 ?_;intro w5 dB);exact fQ.o.jF dB (HS2.o.trans (if_pos BQ.o))
  ·have hk3b:(x.kind==3)=false:=by simpa using hk3
   have fq:acB (gH M x ls []=(JV T x.kind ls,M)):=by
    show _=_;rw[AU u_.o,if_neg hk3];unfold oq;rw[HTA.o]
   have hkk:x.kind=11∨x.kind=12:=by have:=u_.o;omega
   unfold JV at fq;rw[←Yq.o,←YF.o]at fq;have HKK:=acA hkk;clear hk3 hkk;go_wp2_with fail;refine mg.o.mono ?_;rintro e w5 ⟨rfl,hb5⟩;have mP:=acA (HR3.o.grow hb5);have JM:=acA (HZ3.o.grow hb5);have zK:=acA (tY.o.grow hb5);clear hb5 mg;by_cases hz:ke=0
   ·have BQ:=acA hz;have hz2:(ke !=0)=false:=by simpa using hz
    have uT:=acA (zK.o.node ki);obtain⟨x0,x1,x2,x3,x4,x5,hnm,hrep,-⟩:=AV T ki;rw[hnm]at uT;have HREP:=acA hrep;clear hz hnm hrep;go_wp2_with fail;refine uT.o.mono ?_;rintro e w6 ⟨rfl,hb6⟩;have vY:Below w5.heap.size w5 (w6.alloc (.cells #[.int .i64 x0,.int .i64 x1,.int .i64 x2,.int .i64 x3,.int .u64 x4,.bool x5] 39)):=hb6.trans ((wall w6 _).mono hb6.size);have Gj:=(MapKept.heap_alloc w6 (.cells #[.int .i64 x0,.int .i64 x1,.int .i64 x2,.int .i64 x3,.int .u64 x4,.bool x5] 39)).1;go_upto_region 14 with(fail);generalize w6.alloc (.cells #[.int .i64 x0,.int .i64 x1,.int .i64 x2,.int .i64 x3,.int .u64 x4,.bool x5] 39)=w7 at*;obtain⟨g7,KJ⟩:∃g7,g7=w6.heap.size:=⟨_,rfl⟩;rw[←KJ]at Gj⊢;clear KJ;have Gd:=acA (mP.o.grow vY);have Pj:=acA (zK.o.grow vY);obtain⟨zz,-,-,-,-,-,-,-,-⟩:=(JM.o.grow vY).cells;have HG7:=acA Gj;clear hb6 vY uT mP JM zK Gj;rcases HKK.o with hk|hk
    ·rw[hk]at zz;have HS2:acB (gH M x ls []=(⟨(mE T ki).2,(mE T ki).1.length,[],(mE T ki).1,none⟩,M)):=by
      show _=_;rw[fq.o,if_neg (by rw[BQ.o];simp),if_neg (by omega)]
     have Dt:=acA (Pj.o.list ki);obtain⟨lm,hlm⟩:∃lm,lm=mE T ki:=⟨_,rfl⟩;rw[←hlm]at Dt HS2;obtain⟨ln,le⟩:=lm;clear hlm hk fq;go_wp2_with fail;refine Dt.o.mono ?_;rintro e w8 ⟨la,lc,rfl,hlc,hst,sP⟩;have BP:=acA (Gd.o.grow sP);have Ma:=acA hlc;have HST:acB (aK (Free o1 w8) w8 la ln.length (ln.map strOf)):=⟨hst.row.mono fun b hb=>⟨aaj fun h0=>by have:=(Gd.o.marks.new b h0).2;have:=hb.1;omega,hb.2⟩,hst.short⟩;clear sP hlc hst Dt;dsimp only;go_wp2_with (refine BP.o.rep ⟨le,ln.length,[],ln,none⟩ none la 0 lc ?_;intro w9 dB);exact BP.o.ret dB HS2.o ⟨Nat.le_refl _,Ma.o,ah.nil _ _ _,HST.o⟩
    ·rw[hk]at zz;have HS2:acB (gH M x ls []=(⟨0,0,[],[],(aj ki T).map fun x=>(ki,x)⟩,M)):=by
      show _=_;rw[fq.o,if_neg (by rw[BQ.o];simp),if_pos hk]
     have n0:w7.cell? ⟨g7,0,none⟩=some (.int .i64 x0):=by simp[World.cell?,HG7.o]
     have n1:w7.cell? ⟨g7,1,none⟩=some (.int .i64 x1):=by simp[World.cell?,HG7.o]
     have n2:w7.cell? ⟨g7,2,none⟩=some (.int .i64 x2):=by simp[World.cell?,HG7.o]
     have n3:w7.cell? ⟨g7,3,none⟩=some (.int .i64 x3):=by simp[World.cell?,HG7.o]
     have n4:w7.cell? ⟨g7,4,none⟩=some (.int .u64 x4):=by simp[World.cell?,HG7.o]
     have n5:w7.cell? ⟨g7,5,none⟩=some (.bool x5):=by simp[World.cell?,HG7.o]
     clear hk fq;go_wp2_with (refine Gd.o.rep ⟨0,0,[],[],(aj ki T).map fun x=>(ki,x)⟩ none none 0 0 ?_ (hy:=by rw[HREP.o];rfl);intro w9 dB);exact Gd.o.jF dB HS2.o
   ·have BQ:=acA hz;have hz2:(ke !=0)=true:=by simpa using hz
    clear hz;go_wp2_with fail;refine(dR _ _).mono ?_;rintro e w9 ⟨rfl,cO⟩;unfold mG;have fQ:=acA (mP.o.grow cO);clear cO;go_wp2_with (refine fQ.o.rep (bR ke) none none 0 0 ?_;intro w5 dB);exact fQ.o.jF dB (fq.o.trans (by rw[if_pos BQ.o]))
end
end Go.Proofs.YtjnhnlabpccgjaaGreatDoor
