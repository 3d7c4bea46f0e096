/- Maps in memory as sorted lists of keys and values: what a look-up, a store, a delete and a range do to them. Maps in memory: the laws at the operations. -/
import Derived.Test.YtjnhnlabpccgjaaGreatM01
import Derived.Maps.OwnSet
import Derived.Maps.RangeWalk
import Derived.BigFrame
namespace Go.Proofs.YtjnhnlabpccgjaaGreat
open Go.ChangeShapes Go.WideShapes Go.ChangeAt Go.RowKit
set_option linter.unusedVariables false
set_option linter.unusedSectionVars false
structure vv (P:Program) (K:TypeId) (κ:Type) [DecidableEq κ] where
 lit:κ→Lit
 val:κ→Value
 ok:κ→Prop
 lt:κ→κ→Bool
 law:Go.Maps.Keyed P K
 of:∀x,ok x→keyOf P K (val x)=some (lit x)
 inv:∀v kl,keyOf P K v=some kl→∃x,v=val x∧kl=lit x∧ok x
 same:∀a b,(lit a).sameKey (lit b)=decide (a=b)
 before:∀a b,(lit a).before (lit b)=lt a b
 isKey:∀a,WideAt.IsKeyLit (lit a)
section
variable {κ α:Type} [DecidableEq κ] (lt:κ→κ→Bool)
def gL (x:κ×α):List (κ×α)→List (κ×α)
 |[]=>[x]
 |y::r=>if lt x.1 y.1 then x::y::r else y::gL x r
def bF (k:κ) (l:List (κ×α)):List (κ×α):=l.filter fun p=> !decide (p.1=k)
def bM (k:κ) (v:α) (l:List (κ×α)):List (κ×α):=gL lt (k,v) (bF k l)
def aj (k:κ) (l:List (κ×α)):Option α:=(l.find? fun p=>decide (p.1=k)).map (·.2)
theorem D5 {β:Type} (f:α→β) (x:κ×α):∀l:List (κ×α),(gL lt x l).map (fun p=>(p.1,f p.2))=gL lt (x.1,f x.2) (l.map fun p=>(p.1,f p.2))
 |[]=>rfl
 |y::r=>by
  unfold gL
  simp only[List.map_cons]
  split<;>simp[D5 f x r]
theorem M4 {β:Type} (f:α→β) (k:κ) (l:List (κ×α)):(bF k l).map (fun p=>(p.1,f p.2))=bF k (l.map fun p=>(p.1,f p.2)):=by
 simp[bF,List.filter_map,Function.comp_def]
theorem M5 {β:Type} (f:α→β) (k:κ) (v:α) (l:List (κ×α)):(bM lt k v l).map (fun p=>(p.1,f p.2))=bM lt k (f v) (l.map fun p=>(p.1,f p.2)):=by
 simp[bM,D5,M4]
theorem yF {β:Type} (f:α→β) (k:κ) (l:List (κ×α)):aj k (l.map fun p=>(p.1,f p.2))=(aj k l).map f:=by
 induction l with
 |nil=>rfl
 |cons y r ih=>
  unfold aj at ih⊢
  simp only[List.map_cons,List.find?_cons]
  cases h:decide (y.1=k)<;>simp_all
theorem mY {x y:κ×α}:∀{l:List (κ×α)},y∈gL lt x l↔y=x∨y∈l
 |[]=>by simp[gL]
 |z::r=>by
  unfold gL
  split
  ·simp
  ·simp only[List.mem_cons,mY (l:=r)]
   constructor
   ·rintro (h|h|h)<;>simp[h]
   ·rintro (h|h|h)<;>simp[h]
theorem qQ (x:κ×α):∀l:List (κ×α),(gL lt x l).length=l.length+1
 |[]=>rfl
 |y::r=>by
  unfold gL
  split
  ·rfl
  ·simp[qQ x r]
theorem qR (k:κ) (v:α):∀l:List (κ×α),(∀p∈l,p.1≠k)→aj k (gL lt (k,v) l)=some v
 |[],_=>by simp[gL,aj]
 |y::r,h=>by
  unfold gL
  split
  ·simp[aj]
  ·have h1:y.1≠k:=h y (by simp)
   have:=qR k v r (fun p hp=>h p (by simp[hp]))
   unfold aj at this⊢
   simp[h1,this]
theorem qA {k j:κ} (hne:j≠k) (v:α):∀l:List (κ×α),aj j (gL lt (k,v) l)=aj j l
 |[]=>by simp[gL,aj,Ne.symm hne]
 |y::r=>by
  unfold gL
  split
  ·simp[aj,Ne.symm hne]
  ·have:=qA hne v r
   unfold aj at this⊢
   simp only[List.find?_cons]
   split<;>simp_all
theorem mZ (k:κ) (l:List (κ×α)):aj k (bF k l)=none:=by
 unfold aj bF
 rw[List.find?_eq_none.2 (fun p hp=>by simpa using(List.mem_filter.1 hp).2)]
 rfl
theorem lY {k j:κ} (hne:j≠k) (l:List (κ×α)):aj j (bF k l)=aj j l:=by
 unfold aj bF
 rw[Go.Maps.find_filter_keep (fun p h=>by
  simp only[decide_eq_true_eq]at h
  simp[h,hne])]
theorem yG (k:κ) (v:α) (l:List (κ×α)):aj k (bM lt k v l)=some v:=
 qR lt k v _ (fun p hp=>by simpa using(List.mem_filter.1 hp).2)
theorem xE {k j:κ} (hne:j≠k) (v:α) (l:List (κ×α)):aj j (bM lt k v l)=aj j l:=by
 unfold bM
 rw[qA lt hne,lY hne]
theorem bC {k:κ} {v:α} {l:List (κ×α)} (h:aj k l=some v):(k,v)∈l:=by
 unfold aj at h
 cases hf:l.find? (fun p=>decide (p.1=k))with
 |none=>rw[hf]at h;cases h
 |some p=>
  rw[hf]at h
  have h1:=List.find?_some hf
  have h2:=List.mem_of_find?_eq_some hf
  simp only[Option.map_some,Option.some.injEq]at h
  simp only[decide_eq_true_eq]at h1
  rw[←h,←h1]
  exact h2
theorem f_ {k:κ} {l:List (κ×α)}:aj k l=none↔∀p∈l,p.1≠k:=by
 unfold aj
 simp[List.find?_eq_none]
theorem jg {k:κ} {l:List (κ×α)} (h:aj k l=none):bF k l=l:=by
 rw[f_]at h
 unfold bF
 rw[List.filter_eq_self]
 intro p hp
 simp[h p hp]
end
structure lZ {κ:Type} (lt:κ→κ→Bool):Prop where
 XY:∀a,lt a a=false
 trans:∀a b c,lt a b=true→lt b c=true→lt a c=true
 tot:∀a b,a≠b→lt a b=true∨lt b a=true
def aC {κ α:Type} (lt:κ→κ→Bool) (l:List (κ×α)):Prop:=l.Pairwise (fun p q=>lt p.1 q.1=true)
section
variable {κ α:Type} [DecidableEq κ] {lt:κ→κ→Bool}
theorem aC.bF {l:List (κ×α)} (h:aC lt l) (k:κ):aC lt (bF k l):=List.Pairwise.filter _ h
theorem aC.gL (L:lZ lt) {x:κ×α}:∀{l:List (κ×α)},aC lt l→(∀p∈l,p.1≠x.1)→aC lt (gL lt x l)
 |[],_,_=>by simp[aC,Go.Proofs.YtjnhnlabpccgjaaGreat.gL]
 |y::r,h,hn=>by
  obtain⟨h1,h2⟩:=List.pairwise_cons.1 h
  unfold Go.Proofs.YtjnhnlabpccgjaaGreat.gL
  split
  ·rename_i hb
   refine List.pairwise_cons.2 ⟨fun q hq=> ?_,h⟩
   rcases List.mem_cons.1 hq with rfl|hq
   ·exact hb
   ·exact L.trans _ _ _ hb (h1 q hq)
  ·rename_i hb
   have hyx:lt y.1 x.1=true:=by
    rcases L.tot x.1 y.1 (hn y (by simp)).symm with h'|h'
    ·exact absurd h' hb
    ·exact h'
   refine List.pairwise_cons.2 ⟨fun q hq=> ?_,aC.gL L h2 (fun p hp=>hn p (by simp[hp]))⟩
   rcases (mY lt).1 hq with rfl|hq
   ·exact hyx
   ·exact h1 q hq
theorem aC.bM (L:lZ lt) {l:List (κ×α)} (h:aC lt l) (k:κ) (v:α):aC lt (bM lt k v l):=
 aC.gL L (h.bF k) (fun p hp=>by simpa using(List.mem_filter.1 hp).2)
theorem aC.apart (L:lZ lt) {l:List (κ×α)} (h:aC lt l):l.Pairwise (fun p q=>p.1≠q.1):=
 List.Pairwise.imp (fun{a b} hab e=>by rw[e,L.XY]at hab;cases hab) h
theorem aC.get (L:lZ lt) {l:List (κ×α)} (h:aC lt l) {k:κ} {v:α} (hm:(k,v)∈l):aj k l=some v:=by
 induction l with
 |nil=>cases hm
 |cons y r ih=>
  have hp:=h.apart L
  obtain⟨h1,h2⟩:=List.pairwise_cons.1 hp
  unfold aj
  rcases List.mem_cons.1 hm with rfl|hm
  ·simp
  ·have:y.1≠k:=h1 _ hm
   simp only[List.find?_cons,this,decide_false]
   exact ih (List.pairwise_cons.1 h).2 hm
theorem qU (L:lZ lt) {l:List (κ×α)} (h:aC lt l) {k:κ} {v:α} (hg:aj k l=some v):(bF k l).length+1=l.length:=by
 induction l with
 |nil=>cases hg
 |cons y r ih=>
  have hp:=h.apart L
  obtain⟨h1,h2⟩:=List.pairwise_cons.1 hp
  by_cases e:y.1=k
  ·have:bF k r=r:=by
    unfold bF
    rw[List.filter_eq_self]
    intro p hp
    have:=h1 p hp
    simp[←e,Ne.symm this]
   unfold bF at this⊢
   simp[e,this]
  ·have hg':aj k r=some v:=by
    unfold aj at hg⊢
    simpa[e]using hg
   have:=ih (List.pairwise_cons.1 h).2 hg'
   unfold bF at this⊢
   simp[e,this]
theorem D6 (L:lZ lt):∀{l m:List (κ×α)},aC lt l→aC lt m→(∀k,aj k l=aj k m)→l=m:=by
 intro l m hl hm h
 have key:∀p:κ×α,p∈l↔p∈m:=by
  intro p
  constructor
  ·intro hp
   have:=hl.get L (k:=p.1) (v:=p.2) hp
   rw[h]at this
   exact bC this
  ·intro hp
   have:=hm.get L (k:=p.1) (v:=p.2) hp
   rw[←h]at this
   exact bC this
 have nd:∀{x:List (κ×α)},aC lt x→x.Nodup:=fun hx=>List.Pairwise.imp (fun{a b} hab e=>by rw[e,L.XY]at hab;cases hab) hx
 have hp:l.Perm m:=(List.perm_ext_iff_of_nodup (nd hl) (nd hm)).2 key
 exact hp.eq_of_pairwise (fun a b _ _ h1 h2=>by
  have:=L.trans _ _ _ h1 h2
  rw[L.XY]at this
  cases this) hl hm
end
def mg (v:Value):Option (DataW Value×List MemPlace):=some (.held v,[])
section
variable {P:Program} {K:TypeId} {κ:Type} [DecidableEq κ] (F:vv P K κ)
def uf (l:List (κ×Value)):DataW Value:= .map (l.map fun p=>(F.lit p.1, .held p.2))
theorem IY (k:κ) (v:Value) (l:List (κ×Value)):(uf F l).put (F.lit k) (.held v)=uf F (bM F.lt k v l):=by
 have h1:∀m:List (κ×Value),DataW.insert (F.lit k, .held v) (m.map fun p=>(F.lit p.1,DataW.held p.2))=(gL F.lt (k,v) m).map fun p=>(F.lit p.1,DataW.held p.2):=by
  intro m
  induction m with
  |nil=>rfl
  |cons y r ih=>
   unfold gL
   simp only[List.map_cons,DataW.insert,F.before]
   split<;>simp[ih]
 show DataW.map (DataW.insert (F.lit k, .held v) ((l.map fun p=>(F.lit p.1,DataW.held p.2)).filter fun p=> !p.1.sameKey (F.lit k)))=_
 rw[List.filter_map]
 have h2:(fun p:Lit×DataW Value=> !p.1.sameKey (F.lit k))∘(fun p:κ×Value=>(F.lit p.1,DataW.held p.2))=fun p=> !decide (p.1=k):=by
  funext p
  simp[F.same]
 rw[h2,h1]
 rfl
theorem IZ (k:κ) (l:List (κ×Value)):(uf F l).del (F.lit k)=uf F (bF k l):=by
 show DataW.map ((l.map fun p=>(F.lit p.1,DataW.held p.2)).filter fun p=> !p.1.sameKey (F.lit k))=_
 rw[List.filter_map]
 have h2:(fun p:Lit×DataW Value=> !p.1.sameKey (F.lit k))∘(fun p:κ×Value=>(F.lit p.1,DataW.held p.2))=fun p=> !decide (p.1=k):=by
  funext p
  simp[F.same]
 rw[h2]
 rfl
theorem I5 (k:κ) (l:List (κ×Value)):Go.Maps.has (uf F l) (F.lit k)=(aj k l).isSome:=by
 unfold uf aj
 simp only[Go.Maps.has,List.any_map,Function.comp_def,F.same]
 induction l with
 |nil=>rfl
 |cons y r ih=>
  simp only[List.any_cons,List.find?_cons]
  cases h:decide (y.1=k)<;>simp[ih]
theorem CF (k:κ) (l:List (κ×Value)) (z:DataW Value):(uf F l).atKey (F.lit k) z=match aj k l with|some v=> .held v|none=>z:=by
 unfold uf aj
 simp only[DataW.atKey,List.find?_map,Function.comp_def,F.same]
 cases l.find? (fun x=>decide (x.1=k))<;>rfl
theorem m_ (l:List (κ×Value)):Go.Maps.size (uf F l)=l.length:=by simp[uf,Go.Maps.size]
def MapAt (w:World) (b:Nat) (l:List (κ×Value)):Prop:=w.ownsMap P K mg b l.length (uf F l)
variable {F}
theorem tight {w:World} {b n:Nat} {D:DataW Value} (h:w.ownsMap P K mg b n D):w.ownsMap P K mg b (Go.Maps.size D) D:=by
 obtain⟨es,clock,hb,hF,hs,rfl⟩:=h
 exact⟨es,clock,hb,hF,by simp[Go.Maps.size,length_sorted],rfl⟩
theorem MapAt.rT {w:World} {b n:Nat} {l:List (κ×Value)} (h:w.ownsMap P K mg b n (uf F l)):MapAt F w b l:=by
 have:=tight h
 rwa [m_]at this
theorem MapAt.made (w:World):MapAt F (w.alloc (.map #[] 0)) w.heap.size []:=World.ownsMap_made w P K mg
theorem MapAt.lt {w:World} {b:Nat} {l:List (κ×Value)} (h:MapAt F w b l):b<w.heap.size:=World.ownsMap.lt h
theorem MapAt.kept {w w':World} {b:Nat} {l:List (κ×Value)} (h:MapAt F w b l) (hk:w'.heap[b]? =w.heap[b]?):MapAt F w' b l:=by
 obtain⟨es,clock,hb,r⟩:=h
 exact⟨es,clock,hk.trans hb,r⟩
theorem MapAt.is {w:World} {b:Nat} {l:List (κ×Value)} (h:MapAt F w b l):∃es clock,w.heap[b]? =some (.map es clock):=by
 obtain⟨es,clock,hb,r⟩:=h
 exact⟨es,clock,hb⟩
theorem MapAt.sorted {w:World} {b:Nat} {l:List (κ×Value)} (h:MapAt F w b l):aC F.lt l∧∀p∈l,F.ok p.1:=by
 obtain⟨es,clock,hb,hF,hs,hD⟩:=h
 have hr:=Go.Maps.fit_rising F.law hF
 have hk:=Go.Maps.fit_keys hF
 simp only[uf,DataW.map.injEq]at hD
 have hp:=Go.Maps.sorted_sorted F.law.one _ hk (Go.Maps.fit_apart F.law hF)
 rw[←hD]at hp
 constructor
 ·rw[List.pairwise_map]at hp
  exact hp.imp (fun{a b} h=>by rw[←F.before];exact h)
 ·intro p hp
  have h1:(F.lit p.1,DataW.held p.2)∈l.map (fun p=>(F.lit p.1,DataW.held p.2)):=List.mem_map.2 ⟨p,hp,rfl⟩
  rw[hD]at h1
  have h2:=(sorted_perm _).mem_iff.1 h1
  obtain⟨v,hv⟩:=hk _ h2
  obtain⟨x,rfl,hx,hok⟩:=F.inv v _ hv
  have:p.1=x:=by
   have:=F.same p.1 x
   rw[←hx,WideAt.sameKey_self (F.isKey _)]at this
   simpa using this.symm
  rw[this]
  exact hok
end
theorem Keeps.turned {w w':World} {b:Nat} (h:w.mapTurned w' b):Keeps (fun x=>x=b) w w':=by
 have hg:=h.grown
 exact⟨hg.os,hg.tape,hg.output,hg.size,fun x hx hn=>hg.block x hx (fun e=>hn (by simpa using e))⟩
theorem Keeps.grown {w w':World} {row:Option Nat} (hg:w.grownBy w' row):Keeps (fun x=>row=some x) w w':=
 ⟨hg.os,hg.tape,hg.output,hg.size,fun x hx hn=>hg.block x hx (fun e=>hn e.symm)⟩
theorem iC {w w':World} {b:Nat} (h:w.mapTurned w' b):w'.heap.size=w.heap.size:=by
 obtain⟨es,clock,es',clock',hb,rfl⟩:=h
 simp[Go.ChangeMaps.setBlock]
section
variable {P:Program} {K:TypeId} {κ:Type} [DecidableEq κ] (F:vv P K κ)
variable {w:World} {ops:Array Oper} {rest:List Oper} {o:Oper} {a:Act} {Q:Exit→Act→World→Prop}
theorem bW (hg:Region.wanted o (yielded ops a.tmps)=true) (m x:Operand) (t e:TypeId) (hop:o.op=Op.lookup t m x false) (ht:P.underlying t=some (.map K e)) {z:Value} (hz:(zeroValue e).run P w= .ok z w)
  {b:Nat} {l:List (κ×Value)} (hm:a.eval m= .map (some b)) (hM:MapAt F w b l) (k:κ) (hx:a.eval x=F.val k) (hok:F.ok k)
  (h:wpList P ops Q rest (a.put o.dst ((aj k l).getD z)) w):wpList P ops Q (o::rest) a w:=by
 refine BigFrame.wpList_want hg fun K' hK=> ?_
 obtain⟨v,ps,hrun,hv⟩:=World.ownsMap.lookup hM F.law ht hz (zd:= .held z) (zp:=[]) rfl (F.of k hok)
 rw[CF]at hv
 have hv':v=(aj k l).getD z:=by
  simp only[mg,Option.some.injEq,Prod.mk.injEq]at hv
  have:=hv.1
  cases hg':aj k l with
  |none=>rw[hg']at this;simpa using this
  |some u=>rw[hg']at this;simpa using this
 rw[hv']at hrun
 unfold Oper.wp
 simp[execOp,hop,hm,hx,hrun,Result.andThen]
 exact hK _ _ h
theorem aU (hg:Region.wanted o (yielded ops a.tmps)=true) (m x:Operand) (t e:TypeId) (hop:o.op=Op.lookup t m x true) (ht:P.underlying t=some (.map K e)) {z:Value} (hz:(zeroValue e).run P w= .ok z w)
  {b:Nat} {l:List (κ×Value)} (hm:a.eval m= .map (some b)) (hM:MapAt F w b l) (k:κ) (hx:a.eval x=F.val k) (hok:F.ok k)
  (h:wpList P ops Q rest (a.put o.dst (.tuple #[(aj k l).getD z, .bool (aj k l).isSome])) w):wpList P ops Q (o::rest) a w:=by
 refine BigFrame.wpList_want hg fun K' hK=> ?_
 obtain⟨v,ps,hrun,hv⟩:=World.ownsMap.look_ok hM F.law ht hz (zd:= .held z) (zp:=[]) rfl (F.of k hok)
 rw[CF]at hv
 rw[I5]at hrun
 have hv':v=(aj k l).getD z:=by
  simp only[mg,Option.some.injEq,Prod.mk.injEq]at hv
  have:=hv.1
  cases hg':aj k l with
  |none=>rw[hg']at this;simpa using this
  |some u=>rw[hg']at this;simpa using this
 rw[hv']at hrun
 unfold Oper.wp
 simp[execOp,hop,hm,hx,hrun,Result.andThen]
 exact hK _ _ h
theorem MapAt.oJ {w:World} {t e:TypeId} (ht:P.underlying t=some (.map K e)) {b:Nat} {l:List (κ×Value)} (hM:MapAt F w b l) (hn:l.length<maxLen) (k:κ) (val:Value) (hok:F.ok k):
  ∃w',(Instr.mapUpdate t (.map (some b)) (F.val k) val).run P w= .ok () w'∧MapAt F w' b (bM F.lt k val l)∧w.mapTurned w' b:=by
 obtain⟨w',hrun,r1,r2⟩:=World.ownsMap.store hM F.law ht hn (F.of k hok) (val:=val) (d:= .held val) (ps:=[]) rfl
 rw[IY]at r1
 exact⟨w',hrun,MapAt.rT r1,r2⟩
theorem kH (hg:Region.wanted o (yielded ops a.tmps)=true) (m x v:Operand) (t e:TypeId) (hop:o.op=Op.mapUpdate t m x v) (ht:P.underlying t=some (.map K e))
  {b:Nat} {l:List (κ×Value)} (hm:a.eval m= .map (some b)) (hM:MapAt F w b l) (hn:l.length<maxLen) (k:κ) (val:Value) (hx:a.eval x=F.val k) (hv:a.eval v=val) (hok:F.ok k)
  (h:∀w',MapAt F w' b (bM F.lt k val l)→w.mapTurned w' b→wpList P ops Q rest (a.put o.dst undef) w'):wpList P ops Q (o::rest) a w:=by
 refine BigFrame.wpList_want hg fun K' hK=> ?_
 obtain⟨w',hrun,r1,r2⟩:=World.ownsMap.store hM F.law ht hn (F.of k hok) (val:=val) (d:= .held val) (ps:=[]) rfl
 rw[IY]at r1
 unfold Oper.wp
 simp[execOp,hop,hm,hx,hv,hrun,Result.andThen]
 exact hK _ _ (h w' (MapAt.rT r1) r2)
theorem AU (hg:Region.wanted o (yielded ops a.tmps)=true) (m x:Operand) (t e:TypeId) (hop:o.op=Op.call {callee:=Callee.builtin Builtin.delete,args:= #[m,x],argTypes:= #[t,K]}) (ht:P.underlying t=some (.map K e))
  {b:Nat} {l:List (κ×Value)} (hm:a.eval m= .map (some b)) (hM:MapAt F w b l) (k:κ) (hx:a.eval x=F.val k) (hok:F.ok k)
  (h:∀w',MapAt F w' b (bF k l)→w.mapTurned w' b→wpList P ops Q rest (a.put o.dst (.tuple #[])) w'):wpList P ops Q (o::rest) a w:=by
 refine BigFrame.wpList_want hg fun K' hK=> ?_
 obtain⟨w',hrun,r1,r2⟩:=World.ownsMap.drop hM F.law ht (F.of k hok) o.type
 rw[IZ]at r1
 unfold Oper.wp
 simp[execOp,hop,resolve,invoke,builtin,hm,hx,hrun,Result.andThen]
 exact hK _ _ (h w' (MapAt.rT r1) r2)
theorem jW (hg:Region.wanted o (yielded ops a.tmps)=true) (m:Operand) (t e:TypeId) (hop:o.op=Op.call {callee:=Callee.builtin Builtin.len,args:= #[m],argTypes:= #[t]}) (ht:P.underlying t=some (.map K e))
  {b:Nat} {l:List (κ×Value)} (hm:a.eval m= .map (some b)) (hM:MapAt F w b l)
  (h:wpList P ops Q rest (a.put o.dst (.int .i64 l.length)) w):wpList P ops Q (o::rest) a w:=by
 refine BigFrame.wpList_want hg fun K' hK=> ?_
 have hrun:=World.ownsMap.len hM ht o.type
 rw[m_]at hrun
 unfold Oper.wp
 simp[execOp,hop,resolve,invoke,builtin,hm,hrun,Result.andThen]
 exact hK _ _ h
def eG (w:World) (b r:Nat) (l:List (κ×Value)) (left:κ→Bool) (cnt:Nat):Prop:=
 ∃L:Lit→Bool,w.ranges P K mg b r l.length (uf F l) L cnt∧∀k,L (F.lit k)=left k
variable {F}
theorem eG.map {b r cnt:Nat} {l:List (κ×Value)} {left:κ→Bool} (h:eG F w b r l left cnt):MapAt F w b l:=by
 obtain⟨L,h,_⟩:=h
 exact h.owns
theorem eG.kept {w':World} {b r cnt:Nat} {l:List (κ×Value)} {left:κ→Bool} (h:eG F w b r l left cnt) (hb':w'.heap[b]? =w.heap[b]?) (hr':w'.heap[r]? =w.heap[r]?):eG F w' b r l left cnt:=by
 obtain⟨L,⟨es,clock,since,seen,c0,hb,hF,hs,hD,hr,rest⟩,hL⟩:=h
 exact⟨L,⟨es,clock,since,seen,c0,hb'.trans hb,hF,hs,hD,hr'.trans hr,rest⟩,hL⟩
theorem eG.lt {b r cnt:Nat} {l:List (κ×Value)} {left:κ→Bool} (h:eG F w b r l left cnt):b<w.heap.size∧r<w.heap.size∧r≠b:=by
 obtain⟨L,h,_⟩:=h
 exact⟨h.owns.lt,h.lt,h.ne⟩
theorem eG.measure {b r cnt:Nat} {l:List (κ×Value)} {left:κ→Bool} (h:eG F w b r l left cnt):w.rangeLeft b r=cnt:=by
 obtain⟨L,h,_⟩:=h
 exact h.left_eq
theorem eG.sub {b r cnt:Nat} {l:List (κ×Value)} {left:κ→Bool} (h:eG F w b r l left cnt) {k:κ} (hk:left k=true):∃v,aj k l=some v:=by
 obtain⟨L,⟨es,clock,since,seen,c0,hb,hF,hs,hD,hr,_,_,_,hl2,_⟩,hL⟩:=h
 rw[←hL]at hk
 obtain⟨x,hx,e⟩:=hl2 _ hk
 have h1:(WideElems.rg P K mg x)∈(es.toList.map (WideElems.rg P K mg)).foldr DataW.insert []:=(sorted_perm _).mem_iff.2 (List.mem_map.2 ⟨x,hx,rfl⟩)
 simp only[uf,DataW.map.injEq]at hD
 rw[←hD]at h1
 obtain⟨p,hp,e1⟩:=List.mem_map.1 h1
 have:F.lit p.1=F.lit k:=by rw[←e,←e1]
 have hpk:p.1=k:=by
  have h2:=F.same p.1 k
  rw[this,WideAt.sameKey_self (F.isKey _)]at h2
  simpa using h2.symm
 cases hg:aj k l with
 |some v=>exact⟨v,rfl⟩
 |none=>exact absurd hpk (f_.1 hg p hp)
variable (F)
theorem mK (hg:o.guard=none) (m:Operand) (t e:TypeId) (hop:o.op=Op.range t m) (ht:P.underlying t=some (.map K e)) {b:Nat} {l:List (κ×Value)} (hm:a.eval m= .map (some b)) (hM:MapAt F w b l)
  (h:∀w',eG F w' b w.heap.size l (fun k=>(aj k l).isSome) l.length→Below w.heap.size w w'→w'.heap.size=w.heap.size+1→wpList P ops Q rest (a.put o.dst (.pointer (some ⟨w.heap.size,0,none⟩))) w'):wpList P ops Q (o::rest) a w:=by
 refine wpList_range_own w hg m t hop K e F.law ht mg b l.length (uf F l) hm hM fun w' h1 h2 h3=> ?_
 rw[m_]at h1
 exact h w' ⟨_,h1,fun k=>I5 F k l⟩ ⟨h2.os,h2.tape,h2.output,h2.size,fun i hi=>h2.block i hi (by simp)⟩ h3
theorem nU (hg:o.guard=none) (it:Operand) (hop:o.op=Op.next it false) {b r cnt:Nat} {l:List (κ×Value)} {left:κ→Bool} (hit:a.eval it= .pointer (some ⟨r,0,none⟩)) (hR:eG F w b r l left cnt)
  (hDone:(∀k,left k=false)→wpList P ops Q rest (a.put o.dst (.tuple #[.bool false])) w)
  (hMore:∀(k:κ) (v:Value) (w':World) (cnt':Nat),F.ok k→left k=true→aj k l=some v→eG F w' b r l (fun z=>left z&& !decide (z=k)) cnt'→cnt'<cnt→Keeps (fun x=>x=r) w w'→w'.heap.size=w.heap.size→
   (Instr.entry (.pointer (some ⟨r,0,none⟩))).run P w'= .ok (.tuple #[F.val k,v]) w'→wpList P ops Q rest (a.put o.dst (.tuple #[.bool true,F.val k,v])) w'):
  wpList P ops Q (o::rest) a w:=by
 have hsub:=fun k hk=>eG.sub hR (k:=k) hk
 obtain⟨L,hR,hL⟩:=hR
 refine wpList_next_ranges w hg it hop K F.law mg F.val (fun v:Value=>v) (fun key kl hk=>by obtain⟨x,e,_⟩:=F.inv key kl hk;exact⟨x,e⟩) (fun v y _=>⟨v,rfl⟩) b r l.length (uf F l) L cnt hit hR
  (fun _ h0=>hDone (fun k=>by rw[←hL];exact h0 _)) ?_
 intro x c kl y w' cnt' hkey hleft hc hat hrg hlt hgr hsz hen
 obtain⟨x',ex,rfl,hok⟩:=F.inv _ _ hkey
 have hl':left x'=true:=by rw[←hL];exact hleft
 obtain⟨v,hv⟩:=hsub x' hl'
 have h1:=hat .nil
 rw[CF,hv]at h1
 simp only[mg,Option.some.injEq]at hc
 rw[←hc]at h1
 simp only[DataW.held.injEq]at h1
 subst h1
 rw[ex]at hen⊢
 refine hMore x' v w' cnt' hok hl' hv ⟨_,hrg,fun k=> ?_⟩ hlt ((Keeps.grown hgr).mono fun z _ hz=>by simpa using hz.symm) hsz hen
 show(L (F.lit k)&& !(F.lit k).sameKey (F.lit x'))=_
 rw[hL,F.same]
end
end Go.Proofs.YtjnhnlabpccgjaaGreat
