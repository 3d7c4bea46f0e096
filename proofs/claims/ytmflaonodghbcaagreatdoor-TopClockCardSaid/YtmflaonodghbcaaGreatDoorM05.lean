/- Maps -/
import Derived.Test.YtmflaonodghbcaaGreatDoorM01
import Derived.Maps.OwnSet
import Derived.Maps.RangeWalk
import Derived.BigFrame
set_option maxRecDepth 100000
set_option maxHeartbeats 64000000
set_option linter.all false
namespace Go.Proofs.YtmflaonodghbcaaGreatDoor
open Go.ChangeShapes Go.WideShapes Go.ChangeAt Go.RowKit
structure Am(P:Program)(K:TypeId)(κ:Type)[DecidableEq κ] where
 lit:κ→Lit
 val:κ→Value
 ok:κ→Prop
 lt:κ→κ→Bool
 law:Go.Maps.Keyed P K
 of:∀x,ok x→keyOf P K (val x)=some (lit x)
 inv:∀v kl,keyOf P K v=some kl→∃x,v=val x∧kl=lit x∧ok x
 same:∀a b,(lit a).sameKey (lit b)=decide (a=b)
 before:∀a b,(lit a).before (lit b)=lt a b
 isKey:∀a,WideAt.IsKeyLit (lit a)
section
variable{κ α:Type}[DecidableEq κ](lt:κ→κ→Bool)
def jq(x:κ×α):List (κ×α)→List (κ×α)
 |[]=>[x]
 |y::r=>if lt x.1 y.1 then x::y::r else y::jq x r
def bM(k:κ)(l:List (κ×α)):List (κ×α):=l.filter fun p=> !decide (p.1=k)
def bX(k:κ)(v:α)(l:List (κ×α)):List (κ×α):=jq lt (k,v) (bM k l)
def aj(k:κ)(l:List (κ×α)):Option α:=(l.find? fun p=>decide (p.1=k)).map (·.2)
theorem Kn{β:Type}(f:α→β)(x:κ×α):∀l:List (κ×α),(jq lt x l).map (fun p=>(p.1,f p.2))=jq lt (x.1,f x.2) (l.map fun p=>(p.1,f p.2))
 |[]=>rfl
 |y::r=>by
  unfold jq;simp only[List.map_cons];split<;>simp[Kn f x r]
theorem UF{β:Type}(f:α→β)(k:κ)(l:List (κ×α)):(bM k l).map (fun p=>(p.1,f p.2))=bM k (l.map fun p=>(p.1,f p.2)):=by
 simp[bM,abZ,abG]
theorem UG{β:Type}(f:α→β)(k:κ)(v:α)(l:List (κ×α)):(bX lt k v l).map (fun p=>(p.1,f p.2))=bX lt k (f v) (l.map fun p=>(p.1,f p.2)):=by
 simp[bX,Kn,UF]
theorem uR{β:Type}(f:α→β)(k:κ)(l:List (κ×α)):aj k (l.map fun p=>(p.1,f p.2))=(aj k l).map f:=by
 induction l with
 |nil=>rfl
 |cons y r ih=>
  unfold aj at ih⊢;simp only[List.map_cons,List.find?_cons];cases h:decide (y.1=k)<;>simp_all
theorem pG{x y:κ×α}:∀{l:List (κ×α)},y∈jq lt x l↔y=x∨y∈l
 |[]=>by simp[jq]
 |z::r=>by
  unfold jq;split
  ·simp
  ·simp only[aaq,pG (l:=r)];constructor
   ·rintro (h|h|h)<;>simp[h]
   ·rintro (h|h|h)<;>simp[h]
theorem uT(x:κ×α):∀l:List (κ×α),(jq lt x l).length=l.length+1
 |[]=>rfl
 |y::r=>by
  unfold jq;split
  ·rfl
  ·simp[uT x r]
theorem uU(k:κ)(v:α):∀l:List (κ×α),(∀p∈l,p.1≠k)→aj k (jq lt (k,v) l)=some v
 |[],_=>by simp[jq,aj]
 |y::r,h=>by
  unfold jq;split
  ·simp[aj]
  ·have h1:y.1≠k:=h y (by simp);have:=uU k v r (fun p hp=>h p (by simp[hp]));unfold aj at this⊢;simp[h1,this]
theorem ug{k j:κ}(hne:j≠k)(v:α):∀l:List (κ×α),aj j (jq lt (k,v) l)=aj j l
 |[]=>by simp[jq,aj,aaP hne]
 |y::r=>by
  unfold jq;split
  ·simp[aj,aaP hne]
  ·have:=ug hne v r;unfold aj at this⊢;simp only[List.find?_cons];split<;>simp_all
theorem pI(k:κ)(l:List (κ×α)):aj k (bM k l)=none:=by
 unfold aj bM;rw[abm.2 (fun p hp=>by simpa using(aax.1 hp).2)];rfl
theorem ou{k j:κ}(hne:j≠k)(l:List (κ×α)):aj j (bM k l)=aj j l:=by
 unfold aj bM;rw[Go.Maps.find_filter_keep (fun p h=>by
  simp only[aar]at h;simp[h,hne])]
theorem pJ(k:κ)(v:α)(l:List (κ×α)):aj k (bX lt k v l)=some v:=
 uU lt k v _ (fun p hp=>by simpa using(aax.1 hp).2)
theorem ow{k j:κ}(hne:j≠k)(v:α)(l:List (κ×α)):aj j (bX lt k v l)=aj j l:=by
 unfold bX;rw[ug lt hne,ou hne]
theorem cZ{k:κ}{v:α}{l:List (κ×α)}(h:aj k l=some v):(k,v)∈l:=by
 unfold aj at h;cases hf:l.find? (fun p=>decide (p.1=k))with
 |none=>rw[hf]at h;cases h
 |some p=>
  rw[hf]at h;have h1:=List.find?_some hf;have h2:=ab0 hf;simp only[aam,aag]at h;simp only[aar]at h1;rw[←h,←h1];exact h2
theorem jW{k:κ}{l:List (κ×α)}:aj k l=none↔∀p∈l,p.1≠k:=by
 unfold aj;simp[abm]
theorem rJ{k:κ}{l:List (κ×α)}(h:aj k l=none):bM k l=l:=by
 rw[jW]at h;unfold bM;rw[abe];intro p hp;simp[h p hp]
end
structure pK{κ:Type}(lt:κ→κ→Bool):Prop where
 irr:∀a,lt a a=false
 trans:∀a b c,lt a b=true→lt b c=true→lt a c=true
 tot:∀a b,a≠b→lt a b=true∨lt b a=true
def aO{κ α:Type}(lt:κ→κ→Bool)(l:List (κ×α)):Prop:=l.Pairwise (fun p q=>lt p.1 q.1=true)
section
variable{κ α:Type}[DecidableEq κ]{lt:κ→κ→Bool}
theorem aO.bM{l:List (κ×α)}(h:aO lt l)(k:κ):aO lt (bM k l):=abP _ h
theorem aO.jq(L:pK lt){x:κ×α}:∀{l:List (κ×α)},aO lt l→(∀p∈l,p.1≠x.1)→aO lt (jq lt x l)
 |[],_,_=>by simp[aO,Go.Proofs.YtmflaonodghbcaaGreatDoor.jq]
 |y::r,h,hn=>by
  obtain⟨h1,h2⟩:=aau.1 h;unfold Go.Proofs.YtmflaonodghbcaaGreatDoor.jq;split
  ·rename_i hb;refine aau.2 ⟨fun q hq=> ?_,h⟩;rcases aaq.1 hq with rfl|hq
   ·exact hb
   ·exact L.trans _ _ _ hb (h1 q hq)
  ·rename_i hb;have hyx:lt y.1 x.1=true:=by
    rcases L.tot x.1 y.1 (hn y (by simp)).symm with h'|h'
    ·exact absurd h' hb
    ·exact h'
   refine aau.2 ⟨fun q hq=> ?_,aO.jq L h2 (fun p hp=>hn p (by simp[hp]))⟩;rcases (pG lt).1 hq with rfl|hq
   ·exact hyx
   ·exact h1 q hq
theorem aO.bX(L:pK lt){l:List (κ×α)}(h:aO lt l)(k:κ)(v:α):aO lt (bX lt k v l):=
 aO.jq L (h.bM k) (fun p hp=>by simpa using(aax.1 hp).2)
theorem aO.apart(L:pK lt){l:List (κ×α)}(h:aO lt l):l.Pairwise (fun p q=>p.1≠q.1):=
 List.Pairwise.imp (fun{a b} hab e=>by rw[e,L.irr]at hab;cases hab) h
theorem aO.get(L:pK lt){l:List (κ×α)}(h:aO lt l){k:κ}{v:α}(hm:(k,v)∈l):aj k l=some v:=by
 induction l with
 |nil=>cases hm
 |cons y r ih=>
  have hp:=h.apart L;obtain⟨h1,h2⟩:=aau.1 hp;unfold aj;rcases aaq.1 hm with rfl|hm
  ·simp
  ·have:y.1≠k:=h1 _ hm;simp only[List.find?_cons,this,decide_false];exact ih (aau.1 h).2 hm
theorem uV(L:pK lt){l:List (κ×α)}(h:aO lt l){k:κ}{v:α}(hg:aj k l=some v):(bM k l).length+1=l.length:=by
 induction l with
 |nil=>cases hg
 |cons y r ih=>
  have hp:=h.apart L;obtain⟨h1,h2⟩:=aau.1 hp;by_cases e:y.1=k
  ·have:bM k r=r:=by
    unfold bM;rw[abe];intro p hp;have:=h1 p hp;simp[←e,aaP this]
   unfold bM at this⊢;simp[e,this]
  ·have hg':aj k r=some v:=by
    unfold aj at hg⊢;simpa[e]using hg
   have:=ih (aau.1 h).2 hg';unfold bM at this⊢;simp[e,this]
theorem BI(L:pK lt):∀{l m:List (κ×α)},aO lt l→aO lt m→(∀k,aj k l=aj k m)→l=m:=by
 intro l m hl hm h;have key:∀p:κ×α,p∈l↔p∈m:=by
  intro p;constructor
  ·intro hp;have:=hl.get L (k:=p.1) (v:=p.2) hp;rw[h]at this;exact cZ this
  ·intro hp;have:=hm.get L (k:=p.1) (v:=p.2) hp;rw[←h]at this;exact cZ this
 have nd:∀{x:List (κ×α)},aO lt x→x.Nodup:=fun hx=>List.Pairwise.imp (fun{a b} hab e=>by rw[e,L.irr]at hab;cases hab) hx;have hp:l.Perm m:=(List.perm_ext_iff_of_nodup (nd hl) (nd hm)).2 key;exact hp.eq_of_pairwise (fun a b _ _ h1 h2=>by
  have:=L.trans _ _ _ h1 h2;rw[L.irr]at this;cases this) hl hm
end
def mV(v:Value):Option (DataW Value×List MemPlace):=some (.held v,[])
section
variable{P:Program}{K:TypeId}{κ:Type}[DecidableEq κ](F:Am P K κ)
def wP(l:List (κ×Value)):DataW Value:= .map (l.map fun p=>(F.lit p.1,.held p.2))
theorem Qg(k:κ)(v:Value)(l:List (κ×Value)):(wP F l).put (F.lit k) (.held v)=wP F (bX F.lt k v l):=by
 have h1:∀m:List (κ×Value),DataW.insert (F.lit k,.held v) (m.map fun p=>(F.lit p.1,DataW.held p.2))=(jq F.lt (k,v) m).map fun p=>(F.lit p.1,DataW.held p.2):=by
  intro m
  induction m with
  |nil=>rfl
  |cons y r ih=>
   unfold jq;simp only[List.map_cons,DataW.insert,F.before];split<;>simp[ih]
 show DataW.map (DataW.insert (F.lit k,.held v) ((l.map fun p=>(F.lit p.1,DataW.held p.2)).filter fun p=> !p.1.sameKey (F.lit k)))=_;rw[abZ];have h2:(fun p:Lit×DataW Value=> !p.1.sameKey (F.lit k))∘(fun p:κ×Value=>(F.lit p.1,DataW.held p.2))=fun p=> !decide (p.1=k):=by
  funext p;simp[F.same]
 rw[h2,h1];rfl
theorem Qh(k:κ)(l:List (κ×Value)):(wP F l).del (F.lit k)=wP F (bM k l):=by
 show DataW.map ((l.map fun p=>(F.lit p.1,DataW.held p.2)).filter fun p=> !p.1.sameKey (F.lit k))=_;rw[abZ];have h2:(fun p:Lit×DataW Value=> !p.1.sameKey (F.lit k))∘(fun p:κ×Value=>(F.lit p.1,DataW.held p.2))=fun p=> !decide (p.1=k):=by
  funext p;simp[F.same]
 rw[h2];rfl
theorem Qi(k:κ)(l:List (κ×Value)):Go.Maps.has (wP F l) (F.lit k)=(aj k l).isSome:=by
 unfold wP aj;simp only[Go.Maps.has,List.any_map,abG,F.same]
 induction l with
 |nil=>rfl
 |cons y r ih=>
  simp only[List.any_cons,List.find?_cons];cases h:decide (y.1=k)<;>simp[ih]
theorem IQ(k:κ)(l:List (κ×Value))(z:DataW Value):(wP F l).atKey (F.lit k) z=match aj k l with|some v=> .held v|none=>z:=by
 unfold wP aj;simp only[DataW.atKey,List.find?_map,abG,F.same];cases l.find? (fun x=>decide (x.1=k))<;>rfl
theorem jL(l:List (κ×Value)):Go.Maps.size (wP F l)=l.length:=by simp[wP,Go.Maps.size]
def MapAt(w:World)(b:Nat)(l:List (κ×Value)):Prop:=w.ownsMap P K mV b l.length (wP F l)
variable{F}
theorem tight{w:World}{b n:Nat}{D:DataW Value}(h:w.ownsMap P K mV b n D):w.ownsMap P K mV b (Go.Maps.size D) D:=by
 obtain⟨es,clock,hb,hF,hs,rfl⟩:=h;exact⟨es,clock,hb,hF,by simp[Go.Maps.size,length_sorted],rfl⟩
theorem MapAt.vW{w:World}{b n:Nat}{l:List (κ×Value)}(h:w.ownsMap P K mV b n (wP F l)):MapAt F w b l:=by
 have:=tight h
 rwa [jL]at this
theorem MapAt.made(w:World):MapAt F (w.alloc (.map #[] 0)) w.heap.size []:=World.ownsMap_made w P K mV
theorem MapAt.lt{w:World}{b:Nat}{l:List (κ×Value)}(h:MapAt F w b l):b<w.heap.size:=World.ownsMap.lt h
theorem MapAt.kept{w w':World}{b:Nat}{l:List (κ×Value)}(h:MapAt F w b l)(hk:w'.heap[b]? =w.heap[b]?):MapAt F w' b l:=by
 obtain⟨es,clock,hb,r⟩:=h;exact⟨es,clock,hk.trans hb,r⟩
theorem MapAt.is{w:World}{b:Nat}{l:List (κ×Value)}(h:MapAt F w b l):∃es clock,w.heap[b]? =some (.map es clock):=by
 obtain⟨es,clock,hb,r⟩:=h;exact⟨es,clock,hb⟩
theorem MapAt.sorted{w:World}{b:Nat}{l:List (κ×Value)}(h:MapAt F w b l):aO F.lt l∧∀p∈l,F.ok p.1:=by
 obtain⟨es,clock,hb,hF,hs,hD⟩:=h;have hr:=Go.Maps.fit_rising F.law hF;have hk:=Go.Maps.fit_keys hF;simp only[wP,DataW.map.injEq]at hD;have hp:=Go.Maps.sorted_sorted F.law.one _ hk (Go.Maps.fit_apart F.law hF);rw[←hD]at hp;constructor
 ·rw[List.pairwise_map]at hp;exact hp.imp (fun{a b} h=>by rw[←F.before];exact h)
 ·intro p hp;have h1:(F.lit p.1,DataW.held p.2)∈l.map (fun p=>(F.lit p.1,DataW.held p.2)):=List.mem_map.2 ⟨p,hp,rfl⟩;rw[hD]at h1;have h2:=(sorted_perm _).mem_iff.1 h1;obtain⟨v,hv⟩:=hk _ h2;obtain⟨x,rfl,hx,hok⟩:=F.inv v _ hv;have:p.1=x:=by
   have:=F.same p.1 x;rw[←hx,WideAt.sameKey_self (F.isKey _)]at this;simpa using this.symm
  rw[this];exact hok
end
theorem Keeps.turned{w w':World}{b:Nat}(h:w.mapTurned w' b):Keeps (fun x=>x=b) w w':=by
 have hg:=h.grown;exact⟨hg.os,hg.tape,hg.output,hg.size,fun x hx hn=>hg.block x hx (fun e=>hn (by simpa using e))⟩
theorem Keeps.grown{w w':World}{row:Option Nat}(hg:w.grownBy w' row):Keeps (fun x=>row=some x) w w':=
 ⟨hg.os,hg.tape,hg.output,hg.size,fun x hx hn=>hg.block x hx (fun e=>hn e.symm)⟩
theorem fI{w w':World}{b:Nat}(h:w.mapTurned w' b):w'.heap.size=w.heap.size:=by
 obtain⟨es,clock,es',clock',hb,rfl⟩:=h;simp[Go.ChangeMaps.setBlock]
section
variable{P:Program}{K:TypeId}{κ:Type}[DecidableEq κ](F:Am P K κ)
variable{w:World}{ops:Array Oper}{rest:List Oper}{o:Oper}{a:Act}{Q:Exit→Act→World→Prop}
theorem bJ(hg:Region.wanted o (yielded ops a.tmps)=true)(m x:Operand)(t e:TypeId)(hop:o.op=Op.lookup t m x false)(ht:P.underlying t=some (.map K e)){z:Value}(hz:(zeroValue e).run P w= .ok z w)
  {b:Nat}{l:List (κ×Value)}(hm:a.eval m= .map (some b))(hM:MapAt F w b l)(k:κ)(hx:a.eval x=F.val k)(hok:F.ok k)
  (h:wpList P ops Q rest (a.put o.dst ((aj k l).getD z)) w):wpList P ops Q (o::rest) a w:=by
 refine aa5 hg fun K' hK=> ?_;obtain⟨v,ps,hrun,hv⟩:=World.ownsMap.lookup hM F.law ht hz (zd:= .held z) (zp:=[]) rfl (F.of k hok);rw[IQ]at hv;have hv':v=(aj k l).getD z:=by
  simp only[mV,aag,aa7]at hv;have:=hv.1;cases hg':aj k l with
  |none=>rw[hg']at this;simpa using this
  |some u=>rw[hg']at this;simpa using this
 rw[hv']at hrun;unfold Oper.wp;simp[execOp,hop,hm,hx,hrun,Result.andThen];exact hK _ _ h
theorem aS(hg:Region.wanted o (yielded ops a.tmps)=true)(m x:Operand)(t e:TypeId)(hop:o.op=Op.lookup t m x true)(ht:P.underlying t=some (.map K e)){z:Value}(hz:(zeroValue e).run P w= .ok z w)
  {b:Nat}{l:List (κ×Value)}(hm:a.eval m= .map (some b))(hM:MapAt F w b l)(k:κ)(hx:a.eval x=F.val k)(hok:F.ok k)
  (h:wpList P ops Q rest (a.put o.dst (.tuple #[(aj k l).getD z,.bool (aj k l).isSome])) w):wpList P ops Q (o::rest) a w:=by
 refine aa5 hg fun K' hK=> ?_;obtain⟨v,ps,hrun,hv⟩:=World.ownsMap.look_ok hM F.law ht hz (zd:= .held z) (zp:=[]) rfl (F.of k hok);rw[IQ]at hv;rw[Qi]at hrun;have hv':v=(aj k l).getD z:=by
  simp only[mV,aag,aa7]at hv;have:=hv.1;cases hg':aj k l with
  |none=>rw[hg']at this;simpa using this
  |some u=>rw[hg']at this;simpa using this
 rw[hv']at hrun;unfold Oper.wp;simp[execOp,hop,hm,hx,hrun,Result.andThen];exact hK _ _ h
theorem MapAt.oZ{w:World}{t e:TypeId}(ht:P.underlying t=some (.map K e)){b:Nat}{l:List (κ×Value)}(hM:MapAt F w b l)(hn:l.length<maxLen)(k:κ)(val:Value)(hok:F.ok k):
  ∃w',(Instr.mapUpdate t (.map (some b)) (F.val k) val).run P w= .ok () w'∧MapAt F w' b (bX F.lt k val l)∧w.mapTurned w' b:=by
 obtain⟨w',hrun,r1,r2⟩:=World.ownsMap.store hM F.law ht hn (F.of k hok) (val:=val) (d:= .held val) (ps:=[]) rfl;rw[Qg]at r1;exact⟨w',hrun,MapAt.vW r1,r2⟩
theorem lX(hg:Region.wanted o (yielded ops a.tmps)=true)(m x v:Operand)(t e:TypeId)(hop:o.op=Op.mapUpdate t m x v)(ht:P.underlying t=some (.map K e))
  {b:Nat}{l:List (κ×Value)}(hm:a.eval m= .map (some b))(hM:MapAt F w b l)(hn:l.length<maxLen)(k:κ)(val:Value)(hx:a.eval x=F.val k)(hv:a.eval v=val)(hok:F.ok k)
  (h:∀w',MapAt F w' b (bX F.lt k val l)→w.mapTurned w' b→wpList P ops Q rest (a.put o.dst undef) w'):wpList P ops Q (o::rest) a w:=by
 refine aa5 hg fun K' hK=> ?_;obtain⟨w',hrun,r1,r2⟩:=World.ownsMap.store hM F.law ht hn (F.of k hok) (val:=val) (d:= .held val) (ps:=[]) rfl;rw[Qg]at r1;unfold Oper.wp;simp[execOp,hop,hm,hx,hv,hrun,Result.andThen];exact hK _ _ (h w' (MapAt.vW r1) r2)
theorem F3(hg:Region.wanted o (yielded ops a.tmps)=true)(m x:Operand)(t e:TypeId)(hop:o.op=Op.call {callee:=Callee.builtin Builtin.delete,args:= #[m,x],argTypes:= #[t,K]})(ht:P.underlying t=some (.map K e))
  {b:Nat}{l:List (κ×Value)}(hm:a.eval m= .map (some b))(hM:MapAt F w b l)(k:κ)(hx:a.eval x=F.val k)(hok:F.ok k)
  (h:∀w',MapAt F w' b (bM k l)→w.mapTurned w' b→wpList P ops Q rest (a.put o.dst (.tuple #[])) w'):wpList P ops Q (o::rest) a w:=by
 refine aa5 hg fun K' hK=> ?_;obtain⟨w',hrun,r1,r2⟩:=World.ownsMap.drop hM F.law ht (F.of k hok) o.type;rw[Qh]at r1;unfold Oper.wp;simp[execOp,hop,resolve,invoke,builtin,hm,hx,hrun,Result.andThen];exact hK _ _ (h w' (MapAt.vW r1) r2)
theorem lH(hg:Region.wanted o (yielded ops a.tmps)=true)(m:Operand)(t e:TypeId)(hop:o.op=Op.call {callee:=Callee.builtin Builtin.len,args:= #[m],argTypes:= #[t]})(ht:P.underlying t=some (.map K e))
  {b:Nat}{l:List (κ×Value)}(hm:a.eval m= .map (some b))(hM:MapAt F w b l)
  (h:wpList P ops Q rest (a.put o.dst (.int .i64 l.length)) w):wpList P ops Q (o::rest) a w:=by
 refine aa5 hg fun K' hK=> ?_;have hrun:=World.ownsMap.len hM ht o.type;rw[jL]at hrun;unfold Oper.wp;simp[execOp,hop,resolve,invoke,builtin,hm,hrun,Result.andThen];exact hK _ _ h
theorem yR(hg:Region.wanted o (yielded ops a.tmps)=true)(m:Operand)(t e:TypeId)(hop:o.op=Op.call {callee:=Callee.builtin Builtin.clear,args:= #[m],argTypes:= #[t]})(ht:P.underlying t=some (.map K e))
  {b:Nat}{l:List (κ×Value)}(hm:a.eval m= .map (some b))(hM:MapAt F w b l)
  (h:∀w',MapAt F w' b []→w.mapTurned w' b→wpList P ops Q rest (a.put o.dst (.tuple #[])) w'):wpList P ops Q (o::rest) a w:=by
 refine aa5 hg fun K' hK=> ?_;obtain⟨es,clock,hb,hF,hs,hD⟩:=hM;have hrun:(Builtin.clear_ #[t] o.type #[.map (some b)]).run P w= .ok (.tuple #[]) (Go.ChangeMaps.setBlock w b (.map #[] clock)):=by
  simp[Builtin.clear_,abH ht,MapKept.run_getObj_map hb,MapKept.run_setObj_map _ hb,Result.andThen,Go.ChangeMaps.setBlock]
 unfold Oper.wp;simp[execOp,hop,resolve,invoke,builtin,hm,hrun,Result.andThen];refine hK _ _ (h _ ⟨#[],clock,Go.ChangeMaps.heap_setBlock_same hb _,⟨by simp,MapKept.stamped_empty _,by simp⟩,Nat.le_refl _,rfl⟩ ⟨es,clock,#[],clock,hb,rfl⟩)
def eF(w:World)(b r:Nat)(l:List (κ×Value))(left:κ→Bool)(cnt:Nat):Prop:=
 ∃L:Lit→Bool,w.ranges P K mV b r l.length (wP F l) L cnt∧∀k,L (F.lit k)=left k
variable{F}
theorem eF.map{b r cnt:Nat}{l:List (κ×Value)}{left:κ→Bool}(h:eF F w b r l left cnt):MapAt F w b l:=by
 obtain⟨L,h,_⟩:=h;exact h.owns
theorem eF.kept{w':World}{b r cnt:Nat}{l:List (κ×Value)}{left:κ→Bool}(h:eF F w b r l left cnt)(hb':w'.heap[b]? =w.heap[b]?)(hr':w'.heap[r]? =w.heap[r]?):eF F w' b r l left cnt:=by
 obtain⟨L,⟨es,clock,since,seen,c0,hb,hF,hs,hD,hr,rest⟩,hL⟩:=h;exact⟨L,⟨es,clock,since,seen,c0,hb'.trans hb,hF,hs,hD,hr'.trans hr,rest⟩,hL⟩
theorem eF.lt{b r cnt:Nat}{l:List (κ×Value)}{left:κ→Bool}(h:eF F w b r l left cnt):b<w.heap.size∧r<w.heap.size∧r≠b:=by
 obtain⟨L,h,_⟩:=h;exact⟨h.owns.lt,h.lt,h.ne⟩
theorem eF.measure{b r cnt:Nat}{l:List (κ×Value)}{left:κ→Bool}(h:eF F w b r l left cnt):w.rangeLeft b r=cnt:=by
 obtain⟨L,h,_⟩:=h;exact h.left_eq
theorem eF.sub{b r cnt:Nat}{l:List (κ×Value)}{left:κ→Bool}(h:eF F w b r l left cnt){k:κ}(hk:left k=true):∃v,aj k l=some v:=by
 obtain⟨L,⟨es,clock,since,seen,c0,hb,hF,hs,hD,hr,_,_,_,hl2,_⟩,hL⟩:=h;rw[←hL]at hk;obtain⟨x,hx,e⟩:=hl2 _ hk;have h1:(WideElems.rg P K mV x)∈(es.toList.map (WideElems.rg P K mV)).foldr DataW.insert []:=(sorted_perm _).mem_iff.2 (List.mem_map.2 ⟨x,hx,rfl⟩);simp only[wP,DataW.map.injEq]at hD;rw[←hD]at h1;obtain⟨p,hp,e1⟩:=List.mem_map.1 h1;have:F.lit p.1=F.lit k:=by rw[←e,←e1]
 have hpk:p.1=k:=by
  have h2:=F.same p.1 k;rw[this,WideAt.sameKey_self (F.isKey _)]at h2;simpa using h2.symm
 cases hg:aj k l with
 |some v=>exact⟨v,rfl⟩
 |none=>exact absurd hpk (jW.1 hg p hp)
variable(F)
theorem lY(hg:o.guard=none)(m:Operand)(t e:TypeId)(hop:o.op=Op.range t m)(ht:P.underlying t=some (.map K e)){b:Nat}{l:List (κ×Value)}(hm:a.eval m= .map (some b))(hM:MapAt F w b l)
  (h:∀w',eF F w' b w.heap.size l (fun k=>(aj k l).isSome) l.length→Below w.heap.size w w'→w'.heap.size=w.heap.size+1→wpList P ops Q rest (a.put o.dst (.pointer (some ⟨w.heap.size,0,none⟩))) w'):wpList P ops Q (o::rest) a w:=by
 refine wpList_range_own w hg m t hop K e F.law ht mV b l.length (wP F l) hm hM fun w' h1 h2 h3=> ?_;rw[jL]at h1;exact h w' ⟨_,h1,fun k=>Qi F k l⟩ ⟨h2.os,h2.tape,h2.output,h2.size,fun i hi=>h2.block i hi (by simp)⟩ h3
theorem nP(hg:o.guard=none)(it:Operand)(hop:o.op=Op.next it false){b r cnt:Nat}{l:List (κ×Value)}{left:κ→Bool}(hit:a.eval it= .pointer (some ⟨r,0,none⟩))(hR:eF F w b r l left cnt)
  (hDone:(∀k,left k=false)→wpList P ops Q rest (a.put o.dst (.tuple #[.bool false])) w)
  (hMore:∀(k:κ) (v:Value) (w':World) (cnt':Nat),F.ok k→left k=true→aj k l=some v→eF F w' b r l (fun z=>left z&& !decide (z=k)) cnt'→cnt'<cnt→Keeps (fun x=>x=r) w w'→w'.heap.size=w.heap.size→
   (Instr.entry (.pointer (some ⟨r,0,none⟩))).run P w'= .ok (.tuple #[F.val k,v]) w'→wpList P ops Q rest (a.put o.dst (.tuple #[.bool true,F.val k,v])) w'):
  wpList P ops Q (o::rest) a w:=by
 have hsub:=fun k hk=>eF.sub hR (k:=k) hk;obtain⟨L,hR,hL⟩:=hR
 refine wpList_next_ranges w hg it hop K F.law mV F.val (fun v:Value=>v) (fun key kl hk=>by obtain⟨x,e,_⟩:=F.inv key kl hk;exact⟨x,e⟩) (fun v y _=>⟨v,rfl⟩) b r l.length (wP F l) L cnt hit hR
  (fun _ h0=>hDone (fun k=>by rw[←hL];exact h0 _)) ?_
 intro x c kl y w' cnt' hkey hleft hc hat hrg hlt hgr hsz hen;obtain⟨x',ex,rfl,hok⟩:=F.inv _ _ hkey;have hl':left x'=true:=by rw[←hL];exact hleft
 obtain⟨v,hv⟩:=hsub x' hl';have h1:=hat .nil;rw[IQ,hv]at h1;simp only[mV,aag]at hc;rw[←hc]at h1;simp only[DataW.held.injEq]at h1;subst h1;rw[ex]at hen⊢;refine hMore x' v w' cnt' hok hl' hv ⟨_,hrg,fun k=> ?_⟩ hlt ((Keeps.grown hgr).mono fun z _ hz=>by simpa using hz.symm) hsz hen;show(L (F.lit k)&& !(F.lit k).sameKey (F.lit x'))=_;rw[hL,F.same]
end
end Go.Proofs.YtmflaonodghbcaaGreatDoor
