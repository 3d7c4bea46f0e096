/-  -/
import Derived.Test.YtjnhnlabpccgjaaGreatDoorM21
import Derived.Test.YtjnhnlabpccgjaaGreatDoorM19
import Derived.Test.YtjnhnlabpccgjaaGreatDoorM35
import Derived.Test.YtjnhnlabpccgjaaGreatDoorM22
import Derived.Test.YtjnhnlabpccgjaaGreatDoorM23
set_option maxRecDepth 100000
set_option maxHeartbeats 64000000
set_option linter.all false
namespace Go.Proofs.YtjnhnlabpccgjaaGreatDoor
open Go.ChangeShapes Go.WideShapes Go.ChangeAt Go.RowKit
theorem Az{M:dQ}{x:jK}{ls:List Nm}(hk:x.kind=3∨x.kind=11∨x.kind=12):f_ M x ls []=if x.kind=3 then vG M ls x.snap else(Hr M x ls,M):=by
 unfold f_;rcases hk with hk|hk|hk<;>simp[hk]
theorem RH{M:dQ}{x:jK}{ls:List Nm}(hk:x.kind=8∨x.kind=13):f_ M x ls []=if x.kind=8 then tJ (fP M ls)else tJ (tH M ls x.aF):=by
 unfold f_;rcases hk with hk|hk<;>simp[hk]
theorem OX{M:dQ}{x:jK}(hk:x.kind=4∨x.kind=5∨x.kind=6):f_ M x [] []=if x.kind=4 then(Dz M x,M)else if x.kind=5 then iY M x else tJ (iZ M x):=by
 unfold f_;rcases hk with hk|hk|hk<;>simp[hk]
theorem RI{M:dQ}{x:jK}(hk:x.kind=4∨x.kind=5∨x.kind=6)(h:∀b,jF M x.fd b=none):f_ M x [] []=(dR 26,M):=by
 rw[OX hk];unfold Dz iY iZ;rw[h true,h false];rcases hk with hk|hk|hk<;>simp[hk]<;>rfl
theorem Ku{M:dQ}{n:Nat}(hn:n<8)(b:Bool):jF M n b=match M.fds n with|some f=>if f.wr=b then some f else none|none=>none:=by
 unfold jF;rw[if_pos (by omega),aa2];rfl
theorem RJ(T:aA)(ls:List Nm):aY T ls=(aG T 0 ls)∨(aY T ls).2≠0:=by
 unfold aY;split
 ·exact .inr (by assumption)
 ·exact .inl rfl
theorem Ef{T:aA}(hT:dZ T){ls:List Nm}(h:(aY T ls).2=0):∃y,aj (aY T ls).1 T=some y∧(y.kind=1∨y.kind=2):=by
 rcases RJ T ls with e|e
 ·rw[e]at h⊢;obtain⟨y,hy⟩:=aaf.1 (gq hT.w ls 0 (fD hT.w) h);exact⟨y,hy,(hT.each _ _ hy).kind⟩
 ·exact absurd h e
theorem Gy{M:dQ}{ls:List Nm}{aF:Int}(hT:dZ M.t):tJ (tH M ls aF)=if (aY M.t ls).2≠0 then(dR (aY M.t ls).2,M)else(dR (jA M.t (aY M.t ls).1 aF).1,M.tr (jA M.t (aY M.t ls).1 aF).2):=by
 by_cases h:(aY M.t ls).2=0
 ·obtain⟨y,hy,hk⟩:=Ef hT h;have e:cO M.t ls=⟨(aY M.t ls).1,y.kind,y.links,y.b.length,y.aF,y.closed,0⟩:=by unfold cO;rw[if_neg (by rw[h];simp),hy]
  rw[if_neg (by rw[h];simp)];unfold tH;rw[e];show tJ (if (0:Int)≠0 then _ else if xO y.kind y.aF y.closed aF≠0 then(xO y.kind y.aF y.closed aF,M)else((jA M.t (aY M.t ls).1 aF).1,{M with t:=(jA M.t (aY M.t ls).1 aF).2}))=_;rw[if_neg (by simp)];have e2:wS M.t (aY M.t ls).1 aF=xO y.kind y.aF y.closed aF:=by
   unfold wS xO kindOf;rw[hy];rcases hk with hk|hk
   ·simp[hk]
   ·simp[hk]
  by_cases hz:xO y.kind y.aF y.closed aF=0
  ·rw[if_neg (by rw[hz];simp)];rfl
  ·rw[if_pos hz];unfold jA;rw[e2,if_neg hz];rfl
 ·rw[if_pos h];have e:cO M.t ls=⟨0,0,0,0,0,false,(aY M.t ls).2⟩:=by unfold cO;rw[if_pos h]
  unfold tH;rw[e];show tJ (if (aY M.t ls).2≠0 then((aY M.t ls).2,M)else _)=_;rw[if_pos h];rfl
theorem Kv{M:dQ}{ls:List Nm}(hT:dZ M.t){y:bJ}(h:(aY M.t ls).2=0)(hy:aj (aY M.t ls).1 M.t=some y):tJ (fP M ls)=if y.kind=2 then(dR 22,M)else if y.closed=true∧y.links≤1∧M.now<y.aF then(dR 28,M)else(dR (bL M.t ls).1,M.tr (bL M.t ls).2):=by
 have hk:=(hT.each _ _ hy).kind;have e:cO M.t ls=⟨(aY M.t ls).1,y.kind,y.links,y.b.length,y.aF,y.closed,0⟩:=by unfold cO;rw[if_neg (by rw[h];simp),hy]
 unfold fP;rw[e];show tJ (if (0:Int)≠0 then _ else if gF y.kind y.links y.aF y.closed M.now≠0 then(gF y.kind y.links y.aF y.closed M.now,M)else((bL M.t ls).1,{M with t:=(bL M.t ls).2}))=_;rw[if_neg (by simp)];rcases hk with hk|hk
 ·by_cases hc:y.closed=true∧y.links≤1∧M.now<y.aF
  ·have e2:gF y.kind y.links y.aF y.closed M.now=28:=by unfold gF;exact if_pos ⟨hk,hc⟩
   rw[e2,if_pos (by omega),if_neg (by omega),if_pos hc];rfl
  ·have e2:gF y.kind y.links y.aF y.closed M.now=0:=by
    unfold gF kindOf;rw[if_neg (fun q=>hc q.2),if_pos hk]
   rw[e2,if_neg (by omega),if_neg (by omega),if_neg hc];rfl
 ·have e2:gF y.kind y.links y.aF y.closed M.now=22:=by
   unfold gF kindOf;rw[if_neg (by omega),if_neg (by omega),if_pos hk]
  rw[e2,if_pos (by omega),if_pos hk];rfl
theorem Ng{M:dQ}{ls:List Nm}(h:(aY M.t ls).2≠0):tJ (fP M ls)=(dR (aY M.t ls).2,M):=by
 have e:cO M.t ls=⟨0,0,0,0,0,false,(aY M.t ls).2⟩:=by unfold cO;rw[if_pos h]
 unfold fP;rw[e];show tJ (if (aY M.t ls).2≠0 then((aY M.t ls).2,M)else _)=_;rw[if_pos h];rfl
theorem AA(T:aA)(id:Int):∃(x0 x1 x2 x3 x4:Int) (x5:Bool),jN T id= .agg #[.int .i64 x0,.int .i64 x1,.int .i64 x2,.int .i64 x3,.int .u64 x4,.bool x5]∧jd ⟨0,0,[],[],(aj id T).map fun x=>(id,x)⟩ none none 0 0= #[.int .i64 0,.int .i64 0,.slice none 0 0,.slice none 0 0,.int .i64 x0,.int .i64 x1,.int .i64 x2,.int .i64 x3,.int .u64 x4,.bool x5]∧((aj id T=none∧x1=0∧x5=false)∨∃y,aj id T=some y∧x1=y.kind∧x2=y.links∧x3=y.b.length∧x4=y.aF∧x5=y.closed):=by
 cases h:aj id T with
 |none=>exact⟨0,0,0,0,0,false,by unfold jN;rw[h],rfl,.inl ⟨rfl,rfl,rfl⟩⟩
 |some y=>exact⟨id,y.kind,y.links,y.b.length,y.aF,y.closed,by unfold jN;rw[h];rfl,rfl,.inr ⟨y,rfl,rfl,rfl,rfl,rfl,rfl⟩⟩
open Go
theorem oq{P:Program}{ops:Array Oper}{Q:Exit→Act→World→Prop}{md:Region.Mode}{S:World→Prop}(i:Nat){oi:Oper}{fuel:Nat}{listed l':Array Bool}{a a':Act}{w:World}
  (hS:S w)(h:wpAnyH P md ops Q S fuel l' a' w)
  (hi:ops[i]? =some oi:=by simp only[aaq,aas,aai];rfl)
  (hs:Region.noSelect ops=true:=by kernel_rfl)(hf:Region.free md ops listed i=true:=by kernel_rfl)(hr:(Region.ready md ops listed).contains i=true:=by kernel_rfl)
  (hQ:∀c a w,Q (.panic c) (a.put oi.dst undef) w→Q (.panic c) a w:=by exact fun _ _ _ h=>h)
  (hw:Region.wanted oi (yielded ops a.tmps)=false:=by rfl)
  (hl:listed.setIfInBounds i true=l':=by(try simp only[aav,aaJ,aaP]);rfl)
  (ha:a.put oi.dst undef=a':=by(try simp only[Act.put,aav,aaJ,aaP]);rfl)
  :wpAnyH P md ops Q S (fuel+1) listed a w:=
 wpAnyH_take hi hs hf hr hQ (Or.inr ⟨hw,rfl⟩) hS (by rw[hl,ha];exact h)
theorem vS{P:Program}{ops:Array Oper}{o:Oper}{a:Act}{w:World}{K:Act→World→Prop}{Q:Exit→Act→World→Prop}{E:Prop}(hgd:o.guard=none)(ty:TypeId)(x y:Operand)(ho:o.op= .store ty x y)
  (b j:Nat)(cells:Array Value)(hx:a.eval x= .pointer (some ⟨b,j,none⟩))(hy:a.eval y= .agg cells)
  (ht:w.there b j cells.size)(hi:(P.info? ty).map (·.size)=some cells.size)(h1:cells.all (·.oneCell')=true)
  (h:K (a.put o.dst undef) (w.setCells b j cells.toList)):if Region.wanted o (yielded ops a.tmps)=true then Oper.wp P o a w K Q else E:=by
 have hw:Region.wanted o (yielded ops a.tmps)=true:=by simp[Region.wanted,hgd]
 rw[if_pos hw];exact wp_store_mid ty x y ho b j cells hx hy ht hi h1 h
section
variable{W w w3 w4 w5:World}{o o1 o4:Mark}{i n p g:Nat}{M M':dQ}
theorem sM.srep{ops:Array Oper}{oo:Oper}{a:Act}{K:Act→World→Prop}{Q:Exit→Act→World→Prop}{E:Prop}{x y:Operand}(h:sM W o i n w p g o1 w4 M)(r:su)(da la:Option Addr)(dc lc:Nat)
  (hn:∀w5,acs (jH w4 g (jd r da la dc lc) 41 w5)→K (a.put oo.dst undef) w5)
  (ho:oo.op= .store 41 x y:=by rfl)(hgd:oo.guard=none:=by rfl)(hx:a.eval x= .pointer (some ⟨g,0,none⟩):=by rfl)(hy:a.eval y= .agg (jd r da la dc lc):=by rfl):if Region.wanted oo (yielded ops a.tmps)=true then Oper.wp Tryz.prog oo a w4 K Q else E:=
 qy hgd _ _ _ ho g _ hx hy _ h.re iH rfl (iX _ _ _ _ _) fun w5 hs=>hn w5 (acr hs)
end
structure xq(w:World)(q:Nat)(T:aA):Prop where
 at_:∃F,jC F w q T
 ok:dZ T
section
variable{w w':World}{q:Nat}{T:aA}
theorem xq.grow(h:xq w q T)(hb:Below w.heap.size w w'):xq w' q T:=by
 obtain⟨F,hF⟩:=h.at_;exact⟨⟨F,hF.below hb acu⟩,h.ok⟩
theorem gV.tree{o:Mark}{j:Nat}(h:gV o j w q T)(hT:dZ T):xq w q T:=by
 obtain⟨F,hF,-⟩:=h;exact⟨⟨F,hF⟩,hT⟩
theorem xq.look{S:Nat→Prop}(h:xq w q T)(a:Option Addr)(n c:Nat)(ls:List Nm)(hS:aT S w a n (ls.map strOf)):Calls Tryz.prog 103 #[ptr q,.slice a n c] w fun e w'=>e= .returned (.tuple #[.int .i64 (aY T ls).1,.int .i64 (aY T ls).2])∧Below w.heap.size w w':=by
 obtain⟨F,hF⟩:=h.at_;exact Aq a n c ls w hF h.ok (by have:=iT h.ok;omega) hS
theorem xq.node(h:xq w q T)(id:Int):Calls Tryz.prog 104 #[ptr q,.int .i64 id] w fun e w'=>e= .returned (.tuple #[jN T id,.bool (aj id T).isSome])∧Below w.heap.size w w':=by
 obtain⟨F,hF⟩:=h.at_;exact mg id w hF h.ok.towP
theorem xq.list(h:xq w q T)(id:Int):Calls Tryz.prog 105 #[ptr q,.int .i64 id] w (Hl w (uE T id)):=by
 obtain⟨F,hF⟩:=h.at_;exact Gj id w hF h.ok
end
theorem Vw{w:World}{q j:Nat}{T:aA}{o:Mark}(h:gV o j w q T)(hT:dZ T)(id:Int):Calls Tryz.prog 106 #[ptr q,.int .i64 id,.int .i64 0,.int .i64 4096] w fun e w'=>∃a n c,e= .returned (.tuple #[.slice a n c,.int .i64 (FB T id 0 4096)])∧n≤c∧ah (Free o w) w a n ((nZ T id 0 4096).map bv)∧w=w':=by
 obtain⟨F,hF,h1,h2⟩:=h;refine(QY id 0 4096 w hF hT.towP (by decide) (by decide)).mono ?_;rintro e w' ⟨a,n,c,he,hr,hw,hc⟩;exact⟨a,n,c,he,hc,hr.mono fun b hb=>⟨h2 b hb.1 hb.2,hF.low b hb.1⟩,hw⟩
theorem RL{T:aA}(hT:dZ T){id:Int}{y:bJ}(hy:aj id T=some y):nZ T id 0 4096=nZ T id 0 y.b.length:=by
 have:=(hT.each id y hy).size;unfold nZ;rw[hy];show(if y.kind=2 then[]else qV y.b 0 4096)=if y.kind=2 then[]else qV y.b 0 y.b.length;congr 1;unfold qV;rw[if_neg (by omega),if_neg (by omega)];rw[show((4096:Int)).toNat=4096 from rfl,aa2,List.take_of_length_le (by simp;omega),List.take_of_length_le (by simp)]
theorem Eh(l:List UInt8)(f i:Nat)(hi:i<l.length)(hf:f≤i):l.drop f=(l.drop f).take (i-f)++l.getD i 0::l.drop (i+1):=by
 have h1:l.drop f=(l.drop f).take (i-f)++(l.drop f).drop (i-f):=(aaR _ _).symm;have h2:(l.drop f).drop (i-f)=l.getD i 0::l.drop (i+1):=by
  rw[List.drop_drop,show f+(i-f)=i by omega,aaO hi];simp[List.getD,List.getElem?_eq_getElem hi]
 rw[h2]at h1;exact h1
theorem Nh(l:List UInt8)(f i:Nat)(hi:i<l.length)(hf:f≤i)(hn:∀c∈(l.drop f).take (i-f),c≠47)(hc:l.getD i 0=47):bR (l.drop f)=(l.drop f).take (i-f)::bR (l.drop (i+1)):=by
 have h1:=Eh l f i hi hf;rw[hc]at h1;exact(aaF bR h1).trans (PI _ _ hn)
theorem Kw(l:List UInt8)(f:Nat)(hf:f≤l.length)(hn:∀c∈(l.drop f).take (l.length-f),c≠47):bR (l.drop f)=[(l.drop f).take (l.length-f)]:=by
 have e:(l.drop f).take (l.length-f)=l.drop f:=List.take_of_length_le (by simp);rw[e]at hn⊢;exact AZ _ hn
theorem RN(l:List UInt8)(f i:Nat)(hi:i<l.length)(hf:f≤i)(hn:∀c∈(l.drop f).take (i-f),c≠47)(hc:l.getD i 0≠47):∀c∈(l.drop f).take (i+1-f),c≠47:=by
 have e:(l.drop f).take (i+1-f)=(l.drop f).take (i-f)++[l.getD i 0]:=by
  rw[show i+1-f=(i-f)+1 by omega,abK,abE,show f+(i-f)=i by omega,List.getElem?_eq_getElem hi];simp[List.getD,List.getElem?_eq_getElem hi]
 intro c hcm;rw[e]at hcm;rcases aap.1 hcm with h|h
 ·exact hn c h
 ·rw[List.mem_singleton.1 h];exact hc
theorem Ik(ls:List (List UInt8))(x:List UInt8)(hx:x∈ls)(hg:bT x=false):bH ls=12:=by
 unfold bH;rw[if_pos];rw[List.any_eq_true];exact⟨x,hx,by simp[hg]⟩
theorem Il(ls:List (List UInt8))(hg:ls.all bT=true):bH ls=if 8<ls.length then 3 else 0:=by
 unfold bH;rw[if_neg];rw[List.any_eq_true];rintro ⟨x,hx,h⟩;rw[List.all_eq_true]at hg;simp[hg x hx]at h
theorem Ei:(Tryz.prog.info? 9).map (fun i=>(i.zero,i.size,i.bytes))=some (some (.string ByteArray.empty),1,16):=by kernel_rfl
def uf(l:List UInt8)(w:World)(v f i:Value)(wr:World):Prop:=
 ∃(a b:Nat) (ss:List ByteArray),f= .int .i64 a∧i= .int .i64 b∧wr.ownsRow w.heap.size 9 1 v ss.length (ss.map .string)∧Below w.heap.size w wr∧(BJ ss).all bT=true∧(∀s∈ss,s.size≤maxLen)∧ss.length≤b∧1≤b∧
  ((b≤l.length∧a≤b∧bR (l.drop 1)=BJ ss++bR (l.drop a)∧∀c∈(l.drop a).take (b-a),c≠47)∨(b=l.length+1∧a≤b∧bR (l.drop 1)=BJ ss))
theorem Ky(w:World)(v:Value)(t:TypeId):∀j u,([v]:List Value)[j]? =some u→(w.alloc (.cells #[v] t)).cell? ((⟨w.heap.size,0,none⟩:Addr).add j)=some u:=by
 intro j u h;cases j with
 |zero=>
  have hh:(w.alloc (.cells #[v] t)).heap[w.heap.size]? =some (.cells #[v] t):=(MapKept.heap_alloc w _).1;have e:(⟨w.heap.size,0,none⟩:Addr).add 0=⟨w.heap.size,0,none⟩:=rfl;rw[e];simp only[World.cell?,hh];simpa using h
 |succ j=>simp at h
theorem Kz{w:World}{base:Nat}{e:TypeId}{size:Nat}{a:Option Addr}{n m cap:Nat}{xs:List Value}(h:w.ownsRow base e size (.slice a m cap) n xs):m≤cap:=by
 obtain⟨_,h⟩:=h;rcases h with⟨h,_⟩|⟨g,cap',cur,h,_,_,h2,_⟩
 ·simp only[aak]at h;omega
 ·simp only[aak]at h;omega
theorem qE(x y:List ByteArray):BJ (x++y)=BJ x++BJ y:=by simp[BJ]
theorem Fv{w w1:World}{base:Nat}{e:TypeId}{size:Nat}{v:Value}{n:Nat}{xs:List Value}(h:w.ownsRow base e size v n xs)(hb:Below w.heap.size w w1):w1.ownsRow base e size v n xs:=
 h.kept (row:=none) ⟨hb.os,hb.tape,hb.output,hb.size,fun k hk _=>hb.block k hk⟩ (by cases v<;>simp[Value.ownBlock]<;>(rename_i a _ _;cases a<;>simp))
theorem yu(s:ByteArray)(w:World)(hs:s.size<4294967281):
  Calls Tryz.prog 42 #[.string s] w (DI w s.data.toList):=by
 obtain⟨i0,hi,hz0,hz1,hz2⟩:=aam Ei;obtain⟨l,hl⟩:∃l,s.data.toList=l:=⟨_,rfl⟩;rw[hl];have hsl:s.size=l.length:=by rw[←hl];simp
 have hte:=abm s;rw[hl]at hte;have hby:∀k (h:k<s.size),s[k]=l.getD k 0:=fun k h=>by rw[JU s k h,hl]
 have ways:(l=[47]∧ak l=([],0))∨(l=[]∧ak l=([],12))∨(0<l.length∧l≠[47]∧l.getD 0 0≠47∧ak l=([],12))∨
   (1<l.length∧l≠[47]∧l.getD 0 0=47∧ak l=if bH (bR (l.drop 1))=0 then(bR (l.drop 1),0)else([],bH (bR (l.drop 1)))):=by
  cases l with
  |nil=>exact Or.inr (Or.inl ⟨rfl,rfl⟩)
  |cons c r=>
   by_cases h:c=47
   ·subst h;by_cases hr:r=[]
    ·subst hr;exact Or.inl ⟨rfl,rfl⟩
    ·refine Or.inr (Or.inr (Or.inr ⟨?_,by simpa using hr,rfl,by simp[ak,hr]⟩));have:=List.length_pos_iff.2 hr;simp;omega
   ·exact Or.inr (Or.inr (Or.inl ⟨by simp,by simp[h],by simpa using h,by simp[ak,h]⟩))
 have Ej:∀(w':World) (k:Int),Below w.heap.size w w'→ak l=([],k)→DI w l (.returned (.tuple #[.slice none 0 0,.int .i64 k])) w':=fun w' k hb h=>⟨none,0,0,[],by rw[h],by simp,by rw[h];rfl,⟨ah.nil _ _ _,by simp⟩,hb⟩;rcases ways with⟨h1,h2⟩|⟨h1,h2⟩|⟨h0,h1,h2,h3⟩|⟨h0,h1,h2,h3⟩
 ·have HP:=acr h2;subst h1;clear h2 hsl hby hl;go_enter Tryz.func42,Tryz.ntmps42;go_wp2
  go_ret2
  exact Ej _ _ acv HP.o
 ·have HP:=acr h2;subst h1;have hz:s.size=0:=hsl;clear h2 hsl hby hl;go_enter Tryz.func42,Tryz.ntmps42;go_wp2
  go_ret2
  exact Ej _ _ acv HP.o
 ·have HP:=acr h3;have e1:(s.toList==[47])=false:=by rw[hte];simpa using h1
  have e2:((s.size:Int)==0)=false:=aa1.2 (by omega);have hp:0<s.size:=by omega
  have e3:=hby 0 hp;obtain⟨c,hc⟩:∃c,c=l.getD 0 0:=⟨_,rfl⟩;rw[←hc]at e3 h2;have e4:((c.toNat:Int) !=47)=true:=by
   rw[bne_iff_ne];intro e;apply h2;rw[←abI];show c.toNat=47;omega
  clear h1 h2 h3 hsl hby hl hte hc;go_enter Tryz.func42,Tryz.ntmps42;go_wp2
  go_ret2
  exact Ej _ _ acv HP.o
 ·have HP:=acr h3;have e1:(s.toList==[47])=false:=by rw[hte];simpa using h1
  have e2:((s.size:Int)==0)=false:=aa1.2 (by omega);have hp:0<s.size:=by omega
  have e3:=hby 0 hp;rw[h2]at e3;have Ni:=acr hby;have HSL:=acr hsl;have hpl:∀a b:Nat,(s.extract a b).data.toList=(l.drop a).take (b-a):=fun a b=>by rw[Lib.extract_data,hl]
  have G5:=acr hpl;clear h1 h2 h3 hsl hby hl hte hpl;go_enter Tryz.func42,Tryz.ntmps42;go_wp2
  go_loopw [4,5,6] (uf l w) (fun _ _ i _=>l.length+1-(intOf i).toNat)
  case atStart=>exact⟨1,1,[],rfl,rfl,World.ownsRow_nil _ _ _ _,Below.refl _ _,rfl,by simp,by simp,by omega,Or.inl ⟨by omega,by omega,rfl,by simp⟩⟩
  case round=>
   obtain⟨a,b,ss,rfl,rfl,hown,hb,hall,hsh,hle,hb1,hcase⟩:=hrel;have BS:=acr hall;have SH:=acr hsh;clear hall hsh;have hbs:ss.length≤4294967282:=by have:=HSL.o;rcases hcase with h|h<;>omega
   rcases hcase with⟨hbl,hab,hsp,hno⟩|⟨hbl,hab,hsp⟩
   ·have hbl':b≤s.size:=by have:=HSL.o;omega
    have iM:=acr hsp;have Dx:=acr hno;clear hsp hno;by_cases hcut:b=l.length∨l.getD b 0=47
    ·have hsplit:acs (bR (l.drop a)=(l.drop a).take (b-a)::(if b=l.length then[]else bR (l.drop (b+1)))):=by
      by_cases hbe:b=l.length
      ·subst hbe;rw[if_pos rfl];exact Kw l a hab Dx.o
      ·rw[if_neg hbe];exact Nh l a b (by omega) hab Dx.o (by rcases hcut with h|h;exact absurd h hbe;exact h)
     have hpsz:(s.extract a b).size≤maxLen:=by
      have:(s.extract a b).size≤s.size:=by simp[ByteArray.size_extract];omega
      unfold maxLen;omega
     have hone:acs (BJ [s.extract a b]=[(l.drop a).take (b-a)]):=by
      show BJ [s.extract a b]=_;simp only[BJ,List.map_cons,abg];rw[G5.o]
     have hnext:acs (bT ((l.drop a).take (b-a))=true→∀(v:Value) (w2:World),w2.ownsRow w.heap.size 9 1 v (ss.length+1) (ss.map Value.string++[.string (s.extract a b)])→Below w.heap.size w w2→uf l w v (.int .i64 ((b:Int)+1)) (.int .i64 ((b:Int)+1)) w2):=by
      intro hg v w2 ho hbw;refine⟨b+1,b+1,ss++[s.extract a b],by go_num,by go_num,by simpa using ho,hbw,?_,?_,by simp;omega,by omega,?_⟩
      ·rw[qE,hone.o,List.all_append,BS.o,List.all_cons,hg];rfl
      ·intro x hx;rcases aap.1 hx with hx|hx
       ·exact SH.o x hx
       ·rw[List.mem_singleton.1 hx];exact hpsz
      ·by_cases hbe:b=l.length
       ·refine Or.inr ⟨by omega,Nat.le_refl _,?_⟩;have h5:=hsplit.o;rw[if_pos hbe]at h5;rw[iM.o,h5,qE,hone.o]
       ·refine Or.inl ⟨by omega,Nat.le_refl _,?_,by simp⟩;have h5:=hsplit.o;rw[if_neg hbe]at h5;rw[iM.o,h5,qE,hone.o,TK];rfl
     have hbad:acs (bT ((l.drop a).take (b-a))=false→ak l=([],12)):=by
      intro hg;have h5:=hsplit.o;have h6:(l.drop a).take (b-a)∈bR (l.drop 1):=by
       rw[iM.o,h5];simp
      have h7:=Ik _ _ h6 hg;rw[HP.o,h7];rfl
     have Z_:(((b:Int)==(s.size:Int))=true)∨(((b:Int)==(s.size:Int))=false∧∃h:b<s.size,s[b]=47):=by
      have:=HSL.o;by_cases hbe:b=l.length
      ·left;simp;omega
      ·right;refine⟨aa1.2 (by omega),by omega,?_⟩;rw[Ni.o b (by omega)];rcases hcut with h|h
       ·exact absurd h hbe
       ·exact h
     have hgp:bT (s.extract a b).data.toList=bT ((l.drop a).take (b-a)):=by rw[G5.o]
     have HGP:=acr hgp;clear hcut hgp;cases hg:bT ((l.drop a).take (b-a))
     ·have HG:acs (bT (s.extract a b).data.toList=false):=by rw[HGP.o];exact hg
      have HB:=hbad.o hg;have HB2:=acr HB;clear hg HB hnext hbad;rcases Z_ with hc|⟨hc,hlt,hc2⟩
      all_goals
       go_wp2_with fail;refine(Ap _ _ hpsz).mono ?_;rintro e w1 ⟨rfl,hb2⟩;rw[HG.o];go_wp2_with fail
       go_ret2
       exact Ej _ _ (hb.trans (hb2.mono hb.size)) HB2.o
     ·have HG:acs (bT (s.extract a b).data.toList=true):=by rw[HGP.o];exact hg
      have HN:acs (∀(v:Value) (w2:World),w2.ownsRow w.heap.size 9 1 v (ss.length+1) (ss.map Value.string++[.string (s.extract a b)])→Below w.heap.size w w2→uf l w v (.int .i64 ((b:Int)+1)) (.int .i64 ((b:Int)+1)) w2):=hnext.o hg;clear hg hnext hbad;rcases Z_ with hc|⟨hc,hlt,hc2⟩
      all_goals
       go_wp2_with fail;refine(Ap _ _ hpsz).mono ?_;rintro e w1 ⟨rfl,hb2⟩;rw[HG.o];have hown1:=Fv hown hb2;have hb3:=hb.trans (hb2.mono hb.size);have hz3:=hb3.size;go_wp2_with (at_builtin;refine wpList_append_own _ rfl _ _ 26 rfl w.heap.size 9 i0 (.string ByteArray.empty) 1 16 Tryz.underlying26 hi hz0 hz1 hz2 rfl (by decide) _ _ _ rfl (hown1.alloc _) ⟨w1.heap.size,0,none⟩ 1 1 [.string (s.extract a b)] rfl rfl (Ky _ _ _) (by simp[Value.oneCell']) (by unfold maxLen;omega) (by omega) (by simp;omega) ?_;intro v' w2 hown2 hgrow _);go_roundw
       case rel=>exact HN.o v' w2 (by simpa using hown2) ((hb3.alloc hz3 _).grown hgrow (by simp;omega) (fun k hk=>(hown1.lt k hk).1))
       case measure=>simp[intOf];omega
    ·have hlt:b<s.size:=by have:=HSL.o;omega
     have hc:((b:Int)==(s.size:Int))=false:=aa1.2 (by omega);have hne:l.getD b 0≠47:=fun e=>hcut (Or.inr e);have hxb:=Ni.o b hlt;obtain⟨c,hcc⟩:∃c,c=l.getD b 0:=⟨_,rfl⟩;rw[←hcc]at hxb hne;have e4:((c.toNat:Int)==47)=false:=by
      rw[aa1];intro e;apply hne;rw[←abI];show c.toNat=47;omega
     have HNO2:acs (∀c∈(l.drop a).take (b+1-a),c≠47):=RN l a b (by have:=HSL.o;omega) hab Dx.o (by rw[←hcc];exact hne);clear hcut hcc hne;go_wp2;go_roundw
     case rel=>exact⟨a,b+1,ss,rfl,by go_num,hown,hb,BS.o,SH.o,by omega,by omega,Or.inl ⟨by have:=HSL.o;omega,by omega,iM.o,HNO2.o⟩⟩
     case measure=>simp[intOf];omega
   ·have hge:¬(b:Int)≤(s.size:Int):=by have:=HSL.o;omega
    have iM:=acr hsp;clear hsp;obtain⟨a1,cap1,rfl,hS⟩:=Ja hown SH.o;have hcap:=Kz hown;have hlen:(bR (l.drop 1)).length=ss.length:=by rw[iM.o,OB]
    have hfin:=Il (bR (l.drop 1)) (by rw[iM.o];exact BS.o);rw[hlen]at hfin;by_cases h8:8<ss.length
    ·have HR:acs (ak l=([],3)):=by
      show ak l=_;rw[HP.o,hfin,if_pos h8];rfl
     have h8':(8:Int)<(ss.length:Int):=by omega
     clear hlen hfin;go_wp2
     go_ret2
     exact Ej _ _ hb HR.o
    ·have HR:acs (ak l=(BJ ss,0)):=by
      show ak l=_;rw[HP.o,hfin,if_neg h8,iM.o];rfl
     clear hlen hfin;go_wp2
     go_ret2
     exact⟨a1,ss.length,cap1,ss,by rw[HR.o];rfl,hcap,by rw[HR.o],hS,hb⟩
theorem sN{M:dQ}{x:jK}(hk:x.kind=4∨x.kind=5∨x.kind=6∨x.kind=14∨x.kind=15∨x.kind=16∨x.kind=17):fE M x=f_ M x [] []:=by
 have e:gu x=([],0):=by
  unfold gu zi;rw[if_pos (by omega),if_neg (by omega),if_neg (by omega)];rfl
 unfold fE;rw[e];rfl
theorem zF(k:Int)(hk:Vu k=false∧1≤k∧k≤17)(w:World):Calls Tryz.prog 41 #[.int .i64 k] w fun e w'=>e= .returned (.bool false)∧Below w.heap.size w w':=by
 have:=Gw k hk.2 w
 rwa [hk.1]at this
theorem KA(k:Int)(hk:Vu k=true∧1≤k∧k≤17)(w:World):Calls Tryz.prog 41 #[.int .i64 k] w fun e w'=>e= .returned (.bool true)∧Below w.heap.size w w':=by
 have:=Gw k hk.2 w
 rwa [hk.1]at this
structure NmS(S:Nat→Prop)(w:World)(q:List Nm)(a:Option Addr)(n c:Nat):Prop where
 len:n=q.length
 few:n≤8
 cap:n≤c
 strs:aT S w a n (q.map strOf)
theorem Nj{w w':World}{l:List UInt8}{a:Option Addr}{n c:Nat}{ss:List ByteArray}(h0:(ak l).2=0)(hc:n≤c)(hb:BJ ss=(ak l).1)(hS:aT (wW w.heap.size) w' a n ss):NmS (wW w.heap.size) w' (ak l).1 a n c:=by
 have e:ss=(ak l).1.map strOf:=by rw[←hb,OC]
 have hl:n=(ak l).1.length:=by rw[←hS.length,e,List.length_map]
 refine⟨hl,by rw[hl];exact Gb h0,hc,?_⟩;rw[←e];exact hS
theorem NmS.below{S:Nat→Prop}{w w':World}{B:Nat}{q:List Nm}{a:Option Addr}{n c:Nat}(h:NmS S w q a n c)(hb:Below w.heap.size w w'):NmS S w' q a n c:=⟨h.len,h.few,h.cap,h.strs.below hb acu⟩
section
variable{W w:World}{o:Mark}{i p:Nat}{M:dQ}{cc:Int}
theorem RP(x:jK)(hx:nN x)(hk:¬(1≤x.kind∧x.kind≤17))(hi:0<i)(hS:j_ o i w p M)(hM:Marks W o w)(hok:fQ cc M)(hcc:cc≤1000000000)(da:Option Addr)(dc:Nat)(hda:ah (Free o w) w da x.data.length (x.data.map bv))(hdl:x.data.length≤1000000):
  Calls Tryz.prog 14 #[ptr p,.agg (opC x da dc)] w (uV o i (i+4) w p (fE M x)):=by
 obtain⟨o1,w2,hw2,hr,hz,hb⟩:=jV hi (n:=i+4) ⟨by omega,by omega⟩ hS hM x da dc;have HW:=acr hw2;unfold opC jd dR at HW;dsimp only[List.length_nil]at HW;have HR:=acr hr;have HZ:=acr hz;have HB:=acr hb;have HI:=acr hi;have HX:=acr hx;have uW:=acr hk;have jO:=acr hok;have Ow:=acr hcc;have uT:=acr hda;have vC:=acr hdl;clear hx hk hok hcc hda hdl;clear hw2 hr hz hb hS hM hi;unfold opC;go_enter abZ,abT;go_upto_region 1 with(fail);rw[←HW.o];clear HW;have kG:acs (fE M x=(dR 30,M)):=by
  show _=_;have e:gu x=([],30):=if_neg uW.o;unfold fE;rw[e];rfl
 obtain⟨z0,-,-,-,-,-,-,-,-⟩:=HZ.o.cells;by_cases h1:x.kind<1
 ·have h2:decide (x.kind<1)=true:=by simpa using h1
  clear h1;go_wp2_with fail;refine(dI _ _).mono ?_;rintro e w9 ⟨rfl,eH⟩;unfold pz;have gQ:=acr (HR.o.grow eH);clear eH;go_wp2_with (refine gQ.o.rep (dR 30) none none 0 0 ?_;intro w5 eU);exact gQ.o.je eU (kG.o)
 ·have h2:decide (x.kind<1)=false:=by simpa using h1
  have h3:decide (17<x.kind)=true:=by have:=uW.o;simp;omega
  clear h1;go_wp2_with fail;refine(dI _ _).mono ?_;rintro e w9 ⟨rfl,eH⟩;unfold pz;have gQ:=acr (HR.o.grow eH);clear eH;go_wp2_with (refine gQ.o.rep (dR 30) none none 0 0 ?_;intro w5 eU);exact gQ.o.je eU (kG.o)
end
section
variable{W w:World}{o:Mark}{i p:Nat}{M:dQ}
theorem YM{S:Nat→Prop}(x:jK)(kd:Int)(hxk:x.kind=kd)(hkd:kd=1∨kd=2)(hi:0<i)(hS:j_ o i w p M)(hM:Marks W o w)(hok:dZ M.t)(a:Option Addr)(n c:Nat)(ls:List Nm)(hls:aT S w a n (ls.map strOf))(hnc:n≤c)(mQ:n≤1000000):
  Calls Tryz.prog 43 #[ptr p,.int .i64 kd,.slice a n c] w (uV o i (i+3) w p (f_ M x ls [])):=by
 obtain⟨o1,hr,-⟩:=sM.start hi (n:=i+3) ⟨by omega,by omega⟩ hS hM acv;obtain⟨w2,hw2⟩:∃w2,w2=w.alloc (.cells (jd (dR 0) none none 0 0) 41):=⟨_,rfl⟩;have hb2:Below w.heap.size w w2:=by rw[hw2];exact wall w _
 rw[←hw2]at hr;have HW:=acr hw2;unfold jd dR at HW;dsimp only[List.length_nil]at HW;have HR:=acr hr;have Ld:=acr (hls.below hb2 acu);have jO:=acr hok;have Mv:=acr (fun t kk (h:gV o1 (i+1) w2 t M.t)=>X7 h HR.o.marks jO.o a n c ls kk Ld.o hnc mQ);clear hw2 hr hb2 hS hM hls hok;rcases hkd with rfl|rfl
 ·have kG:acs (f_ M x ls []=jl M ls):=acr (if_pos hxk);clear hxk;go_enter Tryz.func43,Tryz.ntmps43;go_upto_region 1 with(fail);rw[←HW.o];clear HW;go_wp2_with fail;refine(Gx HR.o.st).mono ?_;rintro e w3 ⟨v,rfl,hfr,rfl⟩;have hv:=hfr.eq;rcases hfr with⟨rfl,hfull⟩|⟨m,IL,rfl,hfm,hfl⟩
  ·have HV:=acr hv;clear hv hfull;go_wp2_with fail;refine(dI _ _).mono ?_;rintro e w9 ⟨rfl,eH⟩;unfold pz;have gQ:=acr (HR.o.grow eH);clear eH;go_wp2_with (refine gQ.o.rep (dR 25) none none 0 0 ?_;intro w5 eU);exact gQ.o.je eU (kG.o.trans (if_pos (by rw[←HV.o];omega)))
  ·have HV:=acr hv;have hd:decide ((m:Int)<0)=false:=by simp
   obtain⟨t,z0,hT,htr⟩:=HR.o.xg;obtain⟨mm,hmm⟩:∃mm,mm=bZ M.t ls 1:=⟨_,rfl⟩;have HC:=acr (Mv.o t 1 hT);have HS2:acs (jl M ls=if mm.1.2≠0 then(dR mm.1.2,M.tr mm.2)else(⟨0,m,[],[],none⟩,dQ.put (M.tr mm.2) m (some ⟨true,mm.1.1,[]⟩))):=by
    rw[hmm];exact(if_neg (by rw[←HV.o];omega)).trans (by rw[←HV.o];rfl)
   rw[←hmm]at HC;have uF:=acr htr;have hm0:(0:Int)≤m:=by omega
   have hm1:(m:Int)<8:=by omega
   clear hmm hT htr hv hfm hfl Mv;go_wp2_with fail;refine HC.o.mono ?_;rintro e w4 ⟨rfl,o4,hs4,kK⟩;have HR4:=acr (uF.o _ _ _ hs4 kK).1;clear hs4 kK HC z0 uF;by_cases hz:mm.1.2=0
   ·have HZ:=acr hz;have hz2:(mm.1.2 !=0)=false:=by simpa using hz
    obtain⟨u0,u1,u2,d0,d1,d2,dz,hput⟩:=HR4.o.put3 m IL (.int .i64 1) (.int .i64 mm.1.1) (.slice none 0 0) (some ⟨true,mm.1.1,[]⟩) ⟨rfl,rfl,none,0,rfl,Nat.le_refl _,ah.nil _ _ _⟩;have og:=acr hput;clear hz hput;go_wp2_with (refine og.o.rep ⟨0,m,[],[],none⟩ none none 0 0 ?_;intro w5 eU);exact og.o.je eU (kG.o.trans (HS2.o.trans (if_neg (fun h=>h HZ.o))))
   ·have HZ:=acr hz;have hz2:(mm.1.2 !=0)=true:=by simpa using hz
    clear hz;go_wp2_with fail;refine(dI _ _).mono ?_;rintro e w9 ⟨rfl,eH⟩;unfold pz;have gQ:=acr (HR4.o.grow eH);clear eH;go_wp2_with (refine gQ.o.rep (dR mm.1.2) none none 0 0 ?_;intro w5 eU);exact gQ.o.je eU (kG.o.trans (HS2.o.trans (if_pos HZ.o)))
 ·have kG:acs (f_ M x ls []=(dR (bZ M.t ls 2).1.2,M.tr (bZ M.t ls 2).2)):=acr ((if_neg (by omega)).trans (if_pos hxk));clear hxk;obtain⟨t,z0,hT,htr⟩:=HR.o.xg;obtain⟨mm,hmm⟩:∃mm,mm=bZ M.t ls 2:=⟨_,rfl⟩;have HC:=acr (Mv.o t 2 hT);rw[←hmm]at HC kG;have uF:=acr htr;clear hmm hT htr Mv;go_enter Tryz.func43,Tryz.ntmps43;go_upto_region 1 with(fail);rw[←HW.o];clear HW;go_wp2_with fail;refine HC.o.mono ?_;rintro e w4 ⟨rfl,o4,hs4,kK⟩;have HR4:=acr (uF.o _ _ _ hs4 kK).1;clear hs4 kK HC z0 uF;go_wp2_with fail;refine(dI _ _).mono ?_;rintro e w9 ⟨rfl,eH⟩;unfold pz;have gQ:=acr (HR4.o.grow eH);clear eH;go_wp2_with (refine gQ.o.rep (dR mm.1.2) none none 0 0 ?_;intro w5 eU);exact gQ.o.je eU (kG.o)
end
section
variable{W w:World}{o:Mark}{i p:Nat}{M:dQ}{cc:Int}
theorem YN{S:Nat→Prop}(x:jK)(hk:x.kind=3∨x.kind=11∨x.kind=12)(hi:0<i)(hS:j_ o i w p M)(hM:Marks W o w)(hok:fQ cc M)(da:Option Addr)(dc:Nat)(a:Option Addr)(n c:Nat)(ls:List Nm)(hls:aT S w a n (ls.map strOf)):
  Calls Tryz.prog 44 #[ptr p,.agg (opC x da dc),.slice a n c] w (uV o i (i+3) w p (f_ M x ls [])):=by
 obtain⟨o1,w2,hw2,hr,hz,hb⟩:=jV hi (n:=i+3) ⟨by omega,by omega⟩ hS hM x da dc;have HW:=acr hw2;unfold opC jd dR at HW;dsimp only[List.length_nil]at HW;have HR:=acr hr;have HZ:=acr hz;have HB:=acr hb;have HI:=acr hi;have Ld:=acr (hls.below hb acu);have jO:=acr hok;have uW:=acr hk;clear hls hok hk;clear hw2 hr hz hb hS hM hi;unfold opC;go_enter Tryz.func44,Tryz.ntmps44;go_upto_region 1 with(fail);rw[←HW.o];clear HW;obtain⟨z0,z1,z2,z3,z4,z5,z6,z7,z8⟩:=HZ.o.cells;obtain⟨t,s,c0,c1,c2,hT,hSn,-⟩:=HR.o.OW;have MV:=acr (Vv (hSn.grow HR.o.marks (Below.refl w2.heap.size w2).drew) (by have:=jO.o.s.few;omega) x.snap);have Im:=acr hT;clear z1 z2 z3 z4 z5 z6 z8 c2 hSn hT;go_upto_if 25 with(fail)
 go_cut [7] (fun v wx=>∃q T mk,v=ptr q∧mW M x.snap=some T∧gV o1 mk wx q T∧dZ T∧Below w2.heap.size w2 wx)
 case first=>
  by_cases hsn:x.snap=0
  ·have hs2:(x.snap !=0)=false:=by simpa using hsn
   have OG:=acr hsn;clear hsn;go_wp2_with fail
   go_meet
   exact⟨t,M.t,i+1,rfl,by unfold mW;rw[if_pos OG.o],Im.o,jO.o.t.1,Below.refl _ _⟩
  ·have hs2:(x.snap !=0)=true:=by simpa using hsn
   have OG:=acr hsn;clear hsn;go_wp2_with fail;refine BP ((fun w'=>w'.cell? ⟨p,1,none⟩=some (ptr s)∧w'.cell? ⟨w.heap.size,7,none⟩=some (.int .i64 x.snap))) ?_ fun hS=> ?_
   ·exact⟨c1,z7⟩
   refine aX 0 hS ?_;refine aX 1 hS ?_;refine aX 2 hS ?_;refine aX 3 hS ?_;refine aX 4 hS ?_;refine aX 5 hS ?_;refine Bl 6 fun K hK=> ?_;go_simp;refine MV.o.mono ?_;rintro e w3 ⟨Q9,hg⟩;have hb3:Below w2.heap.size w2 w3:=acv.drew.trans Q9;have HB3:=acr hb3;have HR3:=acr (HR.o.grow hb3);have Bb:=acr (And.intro ((hb3.cell (aaj w2 _ c1)).trans c1) ((hb3.cell (aaj w2 _ z7)).trans z7));clear hb3 Q9 MV;rcases hg with⟨hf,rfl⟩|⟨y,q,hf,rfl,hq,hoq⟩
   ·have HF:acs (mW M x.snap=none):=by
     show mW M x.snap=none;unfold mW;rw[if_neg OG.o,hf];rfl
    have kG:acs (f_ M x ls []=(dR 29,M)):=by
     show _=_;rw[Az uW.o];unfold vG Hr;rw[HF.o];exact ite_self _
    clear hf;go_wp2_with fail;refine Ag hK (Bb.o) fun hS=> ?_;clear hK K;refine aX 7 hS ?_;refine aX 8 hS ?_;refine aX 9 hS ?_;refine aX 10 hS ?_;refine aX 11 hS ?_;refine Bn ?_;go_wp2_with fail;refine(dI _ _).mono ?_;rintro e w9 ⟨rfl,eH⟩;unfold pz;have gQ:=acr (HR3.o.grow eH);clear eH;go_wp2_with (refine gQ.o.rep (dR 29) none none 0 0 ?_;intro w5 eU);exact gQ.o.je eU (kG.o)
   ·have HF:=acr hf;have HQ:=acr (And.intro hq hoq);clear hf hq hoq;go_wp2_with fail;refine Ag hK (Bb.o) fun hS=> ?_;clear hK K;refine aX 7 hS ?_;refine aX 8 hS ?_;refine aX 9 hS ?_;refine aX 10 hS ?_;refine aX 11 hS ?_;refine Bn ?_;go_wp2_with fail
    go_meet
    refine⟨q,y.t,0,rfl,?_,HQ.o.1,HQ.o.2,HB3.o⟩;unfold mW;rw[if_neg OG.o,HF.o];rfl
 case rest=>
  obtain⟨q,T,mk,rfl,hta,hq,hoT,hb3⟩:=hcut;obtain⟨w3,rfl⟩:∃w3:World,w3=wc:=⟨_,rfl⟩;have HTA:=acr hta;have HQ:=acr hq;have HOT:=acr hoT;have HR3:=acr (HR.o.grow hb3);have HZ3:=acr (HZ.o.grow hb3);have HLS3:=acr (Ld.o.below hb3 acu);have uF:=acr (hq.tree hoT);clear z0 z7 c0 c1 hta hq hoT hb3 HR HZ Ld MV Im;go_wp2_with fail;refine(Gx HR3.o.st).mono ?_;rintro e w4 ⟨v,rfl,hfr,rfl⟩;have HV:=acr hfr.eq;have HFR:=acr hfr;clear hfr;obtain⟨z0,-,-,-,-,-,-,-,-⟩:=HZ3.o.cells;obtain⟨ki,hki⟩:∃ki,ki=(aY T ls).1:=⟨_,rfl⟩;obtain⟨ke,hke⟩:∃ke,ke=(aY T ls).2:=⟨_,rfl⟩;have qP:=acr (uF.o.look a n c ls HLS3.o);rw[←hki,←hke]at qP;have Yx:=acr hki;have El:=acr hke;clear hki hke;by_cases hk3:x.kind=3
  ·have hk3b:(x.kind==3)=true:=by simpa using hk3
   have hkz:x.kind=3:=hk3;rw[hk3]at z0;have Vx:=acr hk3;have kG:acs (f_ M x ls []=if v<0 then(dR 25,M)else JI M T ls):=by
    show _=_;rw[Az uW.o,if_pos Vx.o,HV.o];unfold vG;rw[HTA.o]
   clear hk3 hkz hk3b;by_cases hv0:v<0
   ·have hv2:decide (v<0)=true:=by simpa using hv0
    have HV0:=acr hv0;clear hv0;go_wp2_with fail;refine(dI _ _).mono ?_;rintro e w9 ⟨rfl,eH⟩;unfold pz;have gQ:=acr (HR3.o.grow eH);clear eH;go_wp2_with (refine gQ.o.rep (dR 25) none none 0 0 ?_;intro w5 eU);exact gQ.o.je eU (kG.o.trans (if_pos HV0.o))
   ·have hv2:decide (v<0)=false:=by simpa using hv0
    have HS2:=acr (kG.o.trans (if_neg hv0));have hvm:∃m:Nat,m<8∧v=m:=by
     rcases HFR.o with⟨h1,-⟩|⟨m,h1,h2,-⟩
     ·omega
     ·exact⟨m,h1,h2⟩
    obtain⟨m,IL,rfl⟩:=hvm;unfold JI at HS2;rw[←Yx.o,←El.o]at HS2;clear hv0 kG;go_wp2_with fail;refine qP.o.mono ?_;rintro e w5 ⟨rfl,hb5⟩;have oM:=acr (HR3.o.grow hb5);have ZR:=acr (HQ.o.grow hb5);have Vy:=acr (HZ3.o.grow hb5);have wu:=acr ((uF.o.grow hb5).node ki);clear hb5 qP;by_cases hz:ke=0
    ·have BQ:=acr hz;have hz2:(ke !=0)=false:=by simpa using hz
     obtain⟨x0,x1,x2,x3,x4,x5,hnm,-,hcase⟩:=AA T ki;rw[hnm]at wu;have EP:=acr hcase;clear hz hnm hcase;go_wp2_with fail;refine wu.o.mono ?_;rintro e w6 ⟨rfl,hb6⟩;have yw:Below w5.heap.size w5 (w6.alloc (.cells #[.int .i64 x0,.int .i64 x1,.int .i64 x2,.int .i64 x3,.int .u64 x4,.bool x5] 39)):=hb6.trans ((wall w6 _).mono hb6.size);have KC:=(MapKept.heap_alloc w6 (.cells #[.int .i64 x0,.int .i64 x1,.int .i64 x2,.int .i64 x3,.int .u64 x4,.bool x5] 39)).1;go_upto_region 14 with(fail);generalize w6.alloc (.cells #[.int .i64 x0,.int .i64 x1,.int .i64 x2,.int .i64 x3,.int .u64 x4,.bool x5] 39)=w7 at*;obtain⟨g7,KD⟩:∃g7,g7=w6.heap.size:=⟨_,rfl⟩;rw[←KD]at KC⊢;clear KD;have ER:=acr (oM.o.grow yw);have HQ7:=acr (ZR.o.grow yw);obtain⟨zz,-,-,-,-,-,-,-,-⟩:=(Vy.o.grow yw).cells;rw[Vx.o]at zz;have n1:w7.cell? ⟨g7,1,none⟩=some (.int .i64 x1):=by simp[World.cell?,KC]
     have n5:w7.cell? ⟨g7,5,none⟩=some (.bool x5):=by simp[World.cell?,KC]
     have rz:=acr (Vw HQ7.o HOT.o ki);have HST:acs ((x1=2∧f_ M x ls []=(dR 22,M))∨(x1≠2∧x5=false∧f_ M x ls []=(dR 25,M))∨(x1≠2∧x5=true∧f_ M x ls []=(⟨0,m,[],[],none⟩,M.put m (some ⟨false,0,nZ T ki 0 4096⟩)))):=by
      show _∨_∨_;have h2:=HS2.o;rw[if_neg (by rw[BQ.o];simp)]at h2;rcases EP.o with⟨e1,e2,e3⟩|⟨y,e1,e2,-,-,-,e6⟩
      ·rw[e1]at h2;exact .inr (.inl ⟨by omega,e3,h2⟩)
      ·rw[e1]at h2;by_cases hy:y.kind=2
       ·exact .inl ⟨by omega,h2.trans (if_pos hy)⟩
       ·refine .inr ?_;have h3:=h2.trans (if_neg hy);cases hc:y.closed with
        |false=>exact .inl ⟨by omega,by rw[e6,hc],h3.trans (if_pos hc)⟩
        |true=>
         refine .inr ⟨by omega,by rw[e6,hc],(h3.trans (if_neg (by rw[hc];simp))).trans ?_⟩;rw[RL HOT.o e1,←HV.o];rfl
     clear hb6 yw KC wu oM ZR Vy EP HS2;rcases HST.o with⟨q1,q2⟩|⟨q1,q2,q3⟩|⟨q1,q2,q3⟩
     ·have qF:=acr q2;subst q1;clear q2 HST;go_wp2_with fail;refine(dI _ _).mono ?_;rintro e w9 ⟨rfl,eH⟩;unfold pz;have gQ:=acr (ER.o.grow eH);clear eH;go_wp2_with (refine gQ.o.rep (dR 22) none none 0 0 ?_;intro w5 eU);exact gQ.o.je eU (qF.o)
     ·have qF:=acr q3;have q1b:(x1==2)=false:=by simpa using q1
      subst q2;clear q3 q1 HST;go_wp2_with fail;refine(dI _ _).mono ?_;rintro e w9 ⟨rfl,eH⟩;unfold pz;have gQ:=acr (ER.o.grow eH);clear eH;go_wp2_with (refine gQ.o.rep (dR 25) none none 0 0 ?_;intro w5 eU);exact gQ.o.je eU (qF.o)
     ·have qF:=acr q3;have q1b:(x1==2)=false:=by simpa using q1
      subst q2;have hm0:(0:Int)≤m:=by omega
      have hm1:(m:Int)<8:=by omega
      clear q3 q1 HST;go_wp2_with fail;refine rz.o.mono ?_;rintro e w8 ⟨ra,rn,rc,rfl,hrc,hrow,rfl⟩;have hrl:=hrow.length;rw[List.length_map]at hrl;subst hrl;obtain⟨u0,u1,u2,d0,d1,d2,dz,hput⟩:=ER.o.put3 m IL (.int .i64 2) (.int .i64 0) (.slice ra (nZ T ki 0 4096).length rc) (some ⟨false,0,nZ T ki 0 4096⟩) ⟨rfl,rfl,ra,rc,rfl,hrc,hrow⟩;obtain⟨rl,hrl2⟩:∃rl,rl=(nZ T ki 0 4096).length:=⟨_,rfl⟩;rw[←hrl2]at hput⊢;have og:=acr hput;clear hrow hrc rz hrl2 hput;go_wp2_with (refine og.o.rep ⟨0,m,[],[],none⟩ none none 0 0 ?_;intro w9 eU);exact og.o.je eU qF.o
    ·have BQ:=acr hz;have hz2:(ke !=0)=true:=by simpa using hz
     clear hz;go_wp2_with fail;refine(dI _ _).mono ?_;rintro e w9 ⟨rfl,eH⟩;unfold pz;have gQ:=acr (oM.o.grow eH);clear eH;go_wp2_with (refine gQ.o.rep (dR ke) none none 0 0 ?_;intro w5 eU);exact gQ.o.je eU (HS2.o.trans (if_pos BQ.o))
  ·have hk3b:(x.kind==3)=false:=by simpa using hk3
   have kG:acs (f_ M x ls []=(Ui T x.kind ls,M)):=by
    show _=_;rw[Az uW.o,if_neg hk3];unfold Hr;rw[HTA.o]
   have hkk:x.kind=11∨x.kind=12:=by have:=uW.o;omega
   unfold Ui at kG;rw[←Yx.o,←El.o]at kG;have HKK:=acr hkk;clear hk3 hkk;go_wp2_with fail;refine qP.o.mono ?_;rintro e w5 ⟨rfl,hb5⟩;have oM:=acr (HR3.o.grow hb5);have Vy:=acr (HZ3.o.grow hb5);have wZ:=acr (uF.o.grow hb5);clear hb5 qP;by_cases hz:ke=0
   ·have BQ:=acr hz;have hz2:(ke !=0)=false:=by simpa using hz
    have wu:=acr (wZ.o.node ki);obtain⟨x0,x1,x2,x3,x4,x5,hnm,hrep,-⟩:=AA T ki;rw[hnm]at wu;have HREP:=acr hrep;clear hz hnm hrep;go_wp2_with fail;refine wu.o.mono ?_;rintro e w6 ⟨rfl,hb6⟩;have yw:Below w5.heap.size w5 (w6.alloc (.cells #[.int .i64 x0,.int .i64 x1,.int .i64 x2,.int .i64 x3,.int .u64 x4,.bool x5] 39)):=hb6.trans ((wall w6 _).mono hb6.size);have KC:=(MapKept.heap_alloc w6 (.cells #[.int .i64 x0,.int .i64 x1,.int .i64 x2,.int .i64 x3,.int .u64 x4,.bool x5] 39)).1;go_upto_region 14 with(fail);generalize w6.alloc (.cells #[.int .i64 x0,.int .i64 x1,.int .i64 x2,.int .i64 x3,.int .u64 x4,.bool x5] 39)=w7 at*;obtain⟨g7,KD⟩:∃g7,g7=w6.heap.size:=⟨_,rfl⟩;rw[←KD]at KC⊢;clear KD;have ER:=acr (oM.o.grow yw);have WS:=acr (wZ.o.grow yw);obtain⟨zz,-,-,-,-,-,-,-,-⟩:=(Vy.o.grow yw).cells;have HG7:=acr KC;clear hb6 yw wu oM Vy wZ KC;rcases HKK.o with hk|hk
    ·rw[hk]at zz;have HS2:acs (f_ M x ls []=(⟨(uE T ki).2,(uE T ki).1.length,[],(uE T ki).1,none⟩,M)):=by
      show _=_;rw[kG.o,if_neg (by rw[BQ.o];simp),if_neg (by omega)]
     have Gi:=acr (WS.o.list ki);obtain⟨lm,hlm⟩:∃lm,lm=uE T ki:=⟨_,rfl⟩;rw[←hlm]at Gi HS2;obtain⟨ln,le⟩:=lm;clear hlm hk kG;go_wp2_with fail;refine Gi.o.mono ?_;rintro e w8 ⟨la,lc,rfl,hlc,hst,wE⟩;have D9:=acr (ER.o.grow wE);have SI:=acr hlc;have HST:acs (aT (Free o1 w8) w8 la ln.length (ln.map strOf)):=⟨hst.row.mono fun b hb=>⟨Decidable.byContradiction fun h0=>by have:=(ER.o.marks.new b h0).2;have:=hb.1;omega,hb.2⟩,hst.short⟩;clear wE hlc hst Gi;dsimp only;go_wp2_with (refine D9.o.rep ⟨le,ln.length,[],ln,none⟩ none la 0 lc ?_;intro w9 eU);exact D9.o.ret eU HS2.o ⟨Nat.le_refl _,SI.o,ah.nil _ _ _,HST.o⟩
    ·rw[hk]at zz;have HS2:acs (f_ M x ls []=(⟨0,0,[],[],(aj ki T).map fun x=>(ki,x)⟩,M)):=by
      show _=_;rw[kG.o,if_neg (by rw[BQ.o];simp),if_pos hk]
     have n0:w7.cell? ⟨g7,0,none⟩=some (.int .i64 x0):=by simp[World.cell?,HG7.o]
     have n1:w7.cell? ⟨g7,1,none⟩=some (.int .i64 x1):=by simp[World.cell?,HG7.o]
     have n2:w7.cell? ⟨g7,2,none⟩=some (.int .i64 x2):=by simp[World.cell?,HG7.o]
     have n3:w7.cell? ⟨g7,3,none⟩=some (.int .i64 x3):=by simp[World.cell?,HG7.o]
     have n4:w7.cell? ⟨g7,4,none⟩=some (.int .u64 x4):=by simp[World.cell?,HG7.o]
     have n5:w7.cell? ⟨g7,5,none⟩=some (.bool x5):=by simp[World.cell?,HG7.o]
     clear hk kG;go_wp2_with (refine ER.o.rep ⟨0,0,[],[],(aj ki T).map fun x=>(ki,x)⟩ none none 0 0 ?_ (hy:=by rw[HREP.o];rfl);intro w9 eU);exact ER.o.je eU HS2.o
   ·have BQ:=acr hz;have hz2:(ke !=0)=true:=by simpa using hz
    clear hz;go_wp2_with fail;refine(dI _ _).mono ?_;rintro e w9 ⟨rfl,eH⟩;unfold pz;have gQ:=acr (oM.o.grow eH);clear eH;go_wp2_with (refine gQ.o.rep (dR ke) none none 0 0 ?_;intro w5 eU);exact gQ.o.je eU (kG.o.trans (by rw[if_pos BQ.o]))
end
end Go.Proofs.YtjnhnlabpccgjaaGreatDoor
