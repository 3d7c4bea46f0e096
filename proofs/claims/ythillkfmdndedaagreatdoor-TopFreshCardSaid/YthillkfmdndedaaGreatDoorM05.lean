/- Maps -/
import Derived.Test.YthillkfmdndedaaGreatDoorM01
import Derived.Maps.OwnSet
import Derived.Maps.RangeWalk
import Derived.BigFrame
set_option maxRecDepth 100000
set_option maxHeartbeats 64000000
set_option linter.all false
namespace Go.Proofs.YthillkfmdndedaaGreatDoor
open Go.ChangeShapes Go.WideShapes Go.ChangeAt Go.RowKit
structure AZ(P:Program)(K:TypeId)(κ:Type)[DecidableEq κ] where
 lit:κ->Lit
 val:κ->Value
 ok:κ->Prop
 lt:κ->κ->Bool
 law:Go.Maps.Keyed P K
 of:∀x,ok x->keyOf P K (val x)=some (lit x)
 inv:∀v kl,keyOf P K v=some kl->∃x,v=val x/\kl=lit x/\ok x
 same:∀a b,(lit a).sameKey (lit b)=decide (a=b)
 before:∀a b,(lit a).before (lit b)=lt a b
 isKey:∀a,WideAt.IsKeyLit (lit a)
section
variable{κ α:Type}[DecidableEq κ](lt:κ->κ->Bool)
def lH(x:κ×α):List (κ×α)->List (κ×α)
 |[]=>[x]
 |y::r=>if lt x.1 y.1 then x::y::r else y::lH x r
def bZ(k:κ)(l:List (κ×α)):List (κ×α):=l.filter λ p=> !decide (p.1=k)
def dO(k:κ)(v:α)(l:List (κ×α)):List (κ×α):=lH lt (k,v) (bZ k l)
def au(k:κ)(l:List (κ×α)):Option α:=(l.find? λ p=>decide (p.1=k)).map (·.2)
theorem VJ{β:Type}(f:α->β)(x:κ×α):∀l:List (κ×α),(lH lt x l).map (λ p=>(p.1,f p.2))=lH lt (x.1,f x.2) (l.map λ p=>(p.1,f p.2))
 |[]=>rfl
 |y::r=>by
  unfold lH;simp only[aau];split<;>simp[VJ f x r]
theorem KI{β:Type}(f:α->β)(k:κ)(l:List (κ×α)):au k (l.map λ p=>(p.1,f p.2))=(au k l).map f:=by
 induction l with
 |nil=>rfl
 |cons y r ih=>
  unfold au at ih⊢;simp only[aau,List.find?_cons];cases h:decide (y.1=k)<;>simp_all
theorem qc{x y:κ×α}:∀{l:List (κ×α)},y∈lH lt x l↔y=x\/y∈l
 |[]=>by simp[lH]
 |z::r=>by
  unfold lH;split
  ·simp
  ·simp only[List.mem_cons,qc (l:=r)];constructor
   ·rintro (h|h|h)<;>simp[h]
   ·rintro (h|h|h)<;>simp[h]
theorem Cv(x:κ×α):∀l:List (κ×α),(lH lt x l).length=l.length+1
 |[]=>rfl
 |y::r=>by
  unfold lH;split
  ·rfl
  ·simp[Cv x r]
theorem vN(k:κ)(v:α):∀l:List (κ×α),(∀p∈l,p.1≠k)->au k (lH lt (k,v) l)=some v
 |[],_=>by simp[lH,au]
 |y::r,h=>by
  unfold lH;split
  ·simp[au]
  ·have u:y.1≠k:=h y (by simp);have:=vN k v r (λ p m=>h p (by simp[m]));unfold au at this⊢;simp[u,this]
theorem uI{k j:κ}(m:j≠k)(v:α):∀l:List (κ×α),au j (lH lt (k,v) l)=au j l
 |[]=>by simp[lH,au,aa6 m]
 |y::r=>by
  unfold lH;split
  ·simp[au,aa6 m]
  ·have:=uI m v r;unfold au at this⊢;simp only[List.find?_cons];split<;>simp_all
theorem qd(k:κ)(l:List (κ×α)):au k (bZ k l)=none:=by
 unfold au bZ;rw[abo.2 (λ p m=>by simpa using(aaG.1 m).2)];rfl
theorem oM{k j:κ}(m:j≠k)(l:List (κ×α)):au j (bZ k l)=au j l:=by
 unfold au bZ;rw[Go.Maps.find_filter_keep (λ p h=>by
  simp only[aap]at h;simp[h,m])]
theorem qg(k:κ)(v:α)(l:List (κ×α)):au k (dO lt k v l)=some v:=
 vN lt k v _ (λ p m=>by simpa using(aaG.1 m).2)
theorem oN{k j:κ}(m:j≠k)(v:α)(l:List (κ×α)):au j (dO lt k v l)=au j l:=by
 unfold dO;rw[uI lt m,oM m]
theorem fH{k:κ}{v:α}{l:List (κ×α)}(h:au k l=some v):(k,v)∈l:=by
 unfold au at h;cases m:l.find? (λ p=>decide (p.1=k))with
 |none=>rw[m]at h;cases h
 |some p=>
  rw[m]at h;have u:=List.find?_some m;have y:=ace m;simp only[aao,aae]at h;simp only[aap]at u;rw[<-h,<-u];exact y
theorem pV{k:κ}{l:List (κ×α)}:au k l=none↔∀p∈l,p.1≠k:=by
 unfold au;simp[abo]
theorem A_{k:κ}{l:List (κ×α)}(h:au k l=none):bZ k l=l:=by
 rw[pV]at h;unfold bZ;rw[abC];intro p m;simp[h p m]
end
structure qh{κ:Type}(lt:κ->κ->Bool):Prop where
 irr:∀a,lt a a=false
 trans:∀a b c,lt a b=true->lt b c=true->lt a c=true
 tot:∀a b,a≠b->lt a b=true\/lt b a=true
def bA{κ α:Type}(lt:κ->κ->Bool)(l:List (κ×α)):Prop:=l.Pairwise (λ p q=>lt p.1 q.1=true)
section
variable{κ α:Type}[DecidableEq κ]{lt:κ->κ->Bool}
theorem bA.bZ{l:List (κ×α)}(h:bA lt l)(k:κ):bA lt (bZ k l):=List.Pairwise.filter _ h
theorem bA.lH(L:qh lt){x:κ×α}:∀{l:List (κ×α)},bA lt l->(∀p∈l,p.1≠x.1)->bA lt (lH lt x l)
 |[],_,_=>by simp[bA,Go.Proofs.YthillkfmdndedaaGreatDoor.lH]
 |y::r,h,B=>by
  obtain⟨C,D⟩:=aaE.1 h;unfold Go.Proofs.YthillkfmdndedaaGreatDoor.lH;split
  ·rename_i u;refine aaE.2 ⟨λ q m=> ?_,h⟩;rcases List.mem_cons.1 m with rfl|m
   ·exact u
   ·exact L.trans _ _ _ u (C q m)
  ·rename_i u;have z:lt y.1 x.1=true:=by
    rcases L.tot x.1 y.1 (B y (by simp)).symm with A|A
    ·exact absurd A u
    ·exact A
   refine aaE.2 ⟨λ q m=> ?_,bA.lH L D (λ p E=>B p (by simp[E]))⟩;rcases (qc lt).1 m with rfl|m
   ·exact z
   ·exact C q m
theorem bA.dO(L:qh lt){l:List (κ×α)}(h:bA lt l)(k:κ)(v:α):bA lt (dO lt k v l):=
 bA.lH L (h.bZ k) (λ p m=>by simpa using(aaG.1 m).2)
theorem bA.apart(L:qh lt){l:List (κ×α)}(h:bA lt l):l.Pairwise (λ p q=>p.1≠q.1):=
 List.Pairwise.imp (λ{a b} m e=>by rw[e,L.irr]at m;cases m) h
theorem bA.get(L:qh lt){l:List (κ×α)}(h:bA lt l){k:κ}{v:α}(m:(k,v)∈l):au k l=some v:=by
 induction l with
 |nil=>cases m
 |cons y r ih=>
  have u:=h.apart L;obtain⟨z,A⟩:=aaE.1 u;unfold au;rcases List.mem_cons.1 m with rfl|m
  ·simp
  ·have:y.1≠k:=z _ m;simp only[List.find?_cons,this,decide_false];exact ih (aaE.1 h).2 m
theorem vO(L:qh lt){l:List (κ×α)}(h:bA lt l){k:κ}{v:α}(u:au k l=some v):(bZ k l).length+1=l.length:=by
 induction l with
 |nil=>cases u
 |cons y r ih=>
  have m:=h.apart L;obtain⟨A,B⟩:=aaE.1 m;by_cases e:y.1=k
  ·have:bZ k r=r:=by
    unfold bZ;rw[abC];intro p m;have:=A p m;simp[<-e,aa6 this]
   unfold bZ at this⊢;simp[e,this]
  ·have z:au k r=some v:=by
    unfold au at u⊢;simpa[e]using u
   have:=ih (aaE.1 h).2 z;unfold bZ at this⊢;simp[e,this]
theorem KJ(L:qh lt):∀{l m:List (κ×α)},bA lt l->bA lt m->(∀k,au k l=au k m)->l=m:=by
 intro l m B A h;have z:∀p:κ×α,p∈l↔p∈m:=by
  intro p;constructor
  ·intro u;have:=B.get L (k:=p.1) (v:=p.2) u;rw[h]at this;exact fH this
  ·intro u;have:=A.get L (k:=p.1) (v:=p.2) u;rw[<-h]at this;exact fH this
 have C:∀{x:List (κ×α)},bA lt x->x.Nodup:=λ D=>List.Pairwise.imp (λ{a b} y e=>by rw[e,L.irr]at y;cases y) D;have u:l.Perm m:=(List.perm_ext_iff_of_nodup (C B) (C A)).2 z;exact u.eq_of_pairwise (λ a b _ _ F E=>by
  have:=L.trans _ _ _ F E;rw[L.irr]at this;cases this) B A
end
def ou(v:Value):Option (DataW Value×List MemPlace):=some (.held v,[])
section
variable{P:Program}{K:TypeId}{κ:Type}[DecidableEq κ](F:AZ P K κ)
def zA(l:List (κ×Value)):DataW Value:= .map (l.map λ p=>(F.lit p.1,.held p.2))
theorem QG(k:κ)(v:Value)(l:List (κ×Value)):(zA F l).put (F.lit k) (.held v)=zA F (dO F.lt k v l):=by
 have z:∀m:List (κ×Value),DataW.insert (F.lit k,.held v) (m.map λ p=>(F.lit p.1,DataW.held p.2))=(lH F.lt (k,v) m).map λ p=>(F.lit p.1,DataW.held p.2):=by
  intro m
  induction m with
  |nil=>rfl
  |cons y r ih=>
   unfold lH;simp only[aau,DataW.insert,F.before];split<;>simp[ih]
 show DataW.map (DataW.insert (F.lit k,.held v) ((l.map λ p=>(F.lit p.1,DataW.held p.2)).filter λ p=> !p.1.sameKey (F.lit k)))=_;rw[List.filter_map];have u:(λ p:Lit×DataW Value=> !p.1.sameKey (F.lit k))∘(λ p:κ×Value=>(F.lit p.1,DataW.held p.2))=λ p=> !decide (p.1=k):=by
  funext p;simp[F.same]
 rw[u,z];rfl
theorem QH(k:κ)(l:List (κ×Value)):(zA F l).del (F.lit k)=zA F (bZ k l):=by
 show DataW.map ((l.map λ p=>(F.lit p.1,DataW.held p.2)).filter λ p=> !p.1.sameKey (F.lit k))=_;rw[List.filter_map];have m:(λ p:Lit×DataW Value=> !p.1.sameKey (F.lit k))∘(λ p:κ×Value=>(F.lit p.1,DataW.held p.2))=λ p=> !decide (p.1=k):=by
  funext p;simp[F.same]
 rw[m];rfl
theorem QI(k:κ)(l:List (κ×Value)):Go.Maps.has (zA F l) (F.lit k)=(au k l).isSome:=by
 unfold zA au;simp only[Go.Maps.has,List.any_map,Function.comp_def,F.same]
 induction l with
 |nil=>rfl
 |cons y r ih=>
  simp only[List.any_cons,List.find?_cons];cases h:decide (y.1=k)<;>simp[ih]
theorem Jg(k:κ)(l:List (κ×Value))(z:DataW Value):(zA F l).atKey (F.lit k) z=match au k l with|some v=> .held v|none=>z:=by
 unfold zA au;simp only[DataW.atKey,List.find?_map,Function.comp_def,F.same];cases l.find? (λ x=>decide (x.1=k))<;>rfl
theorem mV(l:List (κ×Value)):Go.Maps.size (zA F l)=l.length:=by simp[zA,Go.Maps.size]
def MapAt(w:World)(b:Nat)(l:List (κ×Value)):Prop:=w.ownsMap P K ou b l.length (zA F l)
variable{F}
theorem tight{w:World}{b n:Nat}{D:DataW Value}(h:w.ownsMap P K ou b n D):w.ownsMap P K ou b (Go.Maps.size D) D:=by
 obtain⟨z,m,y,u,A,rfl⟩:=h;exact⟨z,m,y,u,by simp[Go.Maps.size,length_sorted],rfl⟩
theorem MapAt.wZ{w:World}{b n:Nat}{l:List (κ×Value)}(h:w.ownsMap P K ou b n (zA F l)):MapAt F w b l:=by
 have:=tight h
 rwa [mV]at this
theorem MapAt.made(w:World):MapAt F (w.alloc (.map #[] 0)) w.heap.size []:=World.ownsMap_made w P K ou
theorem MapAt.lt{w:World}{b:Nat}{l:List (κ×Value)}(h:MapAt F w b l):b<w.heap.size:=World.ownsMap.lt h
theorem MapAt.kept{w w':World}{b:Nat}{l:List (κ×Value)}(h:MapAt F w b l)(u:w'.heap[b]? =w.heap[b]?):MapAt F w' b l:=by
 obtain⟨z,m,y,r⟩:=h;exact⟨z,m,u.trans y,r⟩
theorem MapAt.is{w:World}{b:Nat}{l:List (κ×Value)}(h:MapAt F w b l):∃u m,w.heap[b]? =some (.map u m):=by
 obtain⟨u,m,y,r⟩:=h;exact⟨u,m,y⟩
theorem MapAt.sorted{w:World}{b:Nat}{l:List (κ×Value)}(h:MapAt F w b l):bA F.lt l/\∀p∈l,F.ok p.1:=by
 obtain⟨K,u,J,A,I,y⟩:=h;have H:=Go.Maps.fit_rising F.law A;have B:=Go.Maps.fit_keys A;simp only[zA,DataW.map.injEq]at y;have m:=Go.Maps.sorted_sorted F.law.one _ B (Go.Maps.fit_apart F.law A);rw[<-y]at m;constructor
 ·rw[abQ]at m;exact m.imp (λ{a b} h=>by rw[<-F.before];exact h)
 ·intro p m;have C:(F.lit p.1,DataW.held p.2)∈l.map (λ p=>(F.lit p.1,DataW.held p.2)):=List.mem_map.2 ⟨p,m,rfl⟩;rw[y]at C;have E:=(sorted_perm _).mem_iff.1 C;obtain⟨v,G⟩:=B _ E;obtain⟨x,rfl,D,z⟩:=F.inv v _ G;have:p.1=x:=by
   have:=F.same p.1 x;rw[<-D,WideAt.sameKey_self (F.isKey _)]at this;simpa using this.symm
  rw[this];exact z
end
theorem Keeps.turned{w w':World}{b:Nat}(h:w.mapTurned w' b):Keeps (λ x=>x=b) w w':=by
 have m:=h.grown;exact⟨m.os,m.tape,m.output,m.size,λ x u y=>m.block x u (λ e=>y (by simpa using e))⟩
theorem Keeps.grown{w w':World}{m:Option Nat}(u:w.grownBy w' m):Keeps (λ x=>m=some x) w w':=
 ⟨u.os,u.tape,u.output,u.size,λ x y z=>u.block x y (λ e=>z e.symm)⟩
theorem iw{w w':World}{b:Nat}(h:w.mapTurned w' b):w'.heap.size=w.heap.size:=by
 obtain⟨A,u,y,m,z,rfl⟩:=h;simp[Go.ChangeMaps.setBlock]
section
variable{P:Program}{K:TypeId}{κ:Type}[DecidableEq κ](F:AZ P K κ)
variable{w:World}{ops:Array Oper}{rest:List Oper}{o:Oper}{a:Act}{Q:Exit->Act->World->Prop}
theorem aX(I:Region.wanted o (yielded ops a.tmps)=true)(m x:Operand)(t e:TypeId)(D:o.op=Op.lookup t m x false)(N:P.underlying t=some (.map K e)){z:Value}(G:(zeroValue e).run P w= .ok z w)
  {b:Nat}{l:List (κ×Value)}(J:a.eval m= .map (some b))(O:MapAt F w b l)(k:κ)(H:a.eval x=F.val k)(C:F.ok k)
  (h:wpList P ops Q rest (a.put o.dst ((au k l).getD z)) w):wpList P ops Q (o::rest) a w:=by
 refine abb I λ R M=> ?_;obtain⟨v,ps,y,E⟩:=World.ownsMap.lookup O F.law N G (zd:= .held z) (zp:=[]) rfl (F.of k C);rw[Jg]at E;have B:v=(au k l).getD z:=by
  simp only[ou,aae,Prod.mk.injEq]at E;have:=E.1;cases A:au k l with
  |none=>rw[A]at this;simpa using this
  |some u=>rw[A]at this;simpa using this
 rw[B]at y;unfold Oper.wp;simp[execOp,D,J,H,y,Result.andThen];exact M _ _ h
theorem aR(I:Region.wanted o (yielded ops a.tmps)=true)(m x:Operand)(t e:TypeId)(D:o.op=Op.lookup t m x true)(N:P.underlying t=some (.map K e)){z:Value}(G:(zeroValue e).run P w= .ok z w)
  {b:Nat}{l:List (κ×Value)}(J:a.eval m= .map (some b))(O:MapAt F w b l)(k:κ)(H:a.eval x=F.val k)(C:F.ok k)
  (h:wpList P ops Q rest (a.put o.dst (.tuple #[(au k l).getD z,.bool (au k l).isSome])) w):wpList P ops Q (o::rest) a w:=by
 refine abb I λ R M=> ?_;obtain⟨v,ps,y,E⟩:=World.ownsMap.look_ok O F.law N G (zd:= .held z) (zp:=[]) rfl (F.of k C);rw[Jg]at E;rw[QI]at y;have B:v=(au k l).getD z:=by
  simp only[ou,aae,Prod.mk.injEq]at E;have:=E.1;cases A:au k l with
  |none=>rw[A]at this;simpa using this
  |some u=>rw[A]at this;simpa using this
 rw[B]at y;unfold Oper.wp;simp[execOp,D,J,H,y,Result.andThen];exact M _ _ h
theorem MapAt.rU{w:World}{t e:TypeId}(y:P.underlying t=some (.map K e)){b:Nat}{l:List (κ×Value)}(A:MapAt F w b l)(z:l.length<maxLen)(k:κ)(val:Value)(u:F.ok k):
  ∃w',(Instr.mapUpdate t (.map (some b)) (F.val k) val).run P w= .ok () w'/\MapAt F w' b (dO F.lt k val l)/\w.mapTurned w' b:=by
 obtain⟨w',m,r1,r2⟩:=World.ownsMap.store A F.law y z (F.of k u) (val:=val) (d:= .held val) (ps:=[]) rfl;rw[QG]at r1;exact⟨w',m,MapAt.wZ r1,r2⟩
theorem mW(B:Region.wanted o (yielded ops a.tmps)=true)(m x v:Operand)(t e:TypeId)(z:o.op=Op.mapUpdate t m x v)(G:P.underlying t=some (.map K e))
  {b:Nat}{l:List (κ×Value)}(C:a.eval m= .map (some b))(I:MapAt F w b l)(H:l.length<maxLen)(k:κ)(val:Value)(A:a.eval x=F.val k)(D:a.eval v=val)(y:F.ok k)
  (h:∀w',MapAt F w' b (dO F.lt k val l)->w.mapTurned w' b->wpList P ops Q rest (a.put o.dst undef) w'):wpList P ops Q (o::rest) a w:=by
 refine abb B λ J E=> ?_;obtain⟨w',u,r1,r2⟩:=World.ownsMap.store I F.law G H (F.of k y) (val:=val) (d:= .held val) (ps:=[]) rfl;rw[QG]at r1;unfold Oper.wp;simp[execOp,z,C,A,D,u,Result.andThen];exact E _ _ (h w' (MapAt.wZ r1) r2)
theorem lQ(B:Region.wanted o (yielded ops a.tmps)=true)(m x:Operand)(t e:TypeId)(z:o.op=Op.call {callee:=Callee.builtin Builtin.delete,args:= #[m,x],argTypes:= #[t,K]})(E:P.underlying t=some (.map K e))
  {b:Nat}{l:List (κ×Value)}(C:a.eval m= .map (some b))(G:MapAt F w b l)(k:κ)(A:a.eval x=F.val k)(y:F.ok k)
  (h:∀w',MapAt F w' b (bZ k l)->w.mapTurned w' b->wpList P ops Q rest (a.put o.dst (.tuple #[])) w'):wpList P ops Q (o::rest) a w:=by
 refine abb B λ H D=> ?_;obtain⟨w',u,r1,r2⟩:=World.ownsMap.drop G F.law E (F.of k y) o.type;rw[QH]at r1;unfold Oper.wp;simp[execOp,z,resolve,invoke,builtin,C,A,u,Result.andThen];exact D _ _ (h w' (MapAt.wZ r1) r2)
theorem kD(C:Region.wanted o (yielded ops a.tmps)=true)(m:Operand)(t e:TypeId)(y:o.op=Op.call {callee:=Callee.builtin Builtin.len,args:= #[m],argTypes:= #[t]})(B:P.underlying t=some (.map K e))
  {b:Nat}{l:List (κ×Value)}(z:a.eval m= .map (some b))(D:MapAt F w b l)
  (h:wpList P ops Q rest (a.put o.dst (.int .i64 l.length)) w):wpList P ops Q (o::rest) a w:=by
 refine abb C λ E A=> ?_;have u:=World.ownsMap.len D B o.type;rw[mV]at u;unfold Oper.wp;simp[execOp,y,resolve,invoke,builtin,z,u,Result.andThen];exact A _ _ h
theorem Jh(B:Region.wanted o (yielded ops a.tmps)=true)(m:Operand)(t e:TypeId)(A:o.op=Op.call {callee:=Callee.builtin Builtin.clear,args:= #[m],argTypes:= #[t]})(E:P.underlying t=some (.map K e))
  {b:Nat}{l:List (κ×Value)}(C:a.eval m= .map (some b))(G:MapAt F w b l)
  (h:∀w',MapAt F w' b []->w.mapTurned w' b->wpList P ops Q rest (a.put o.dst (.tuple #[])) w'):wpList P ops Q (o::rest) a w:=by
 refine abb B λ I D=> ?_;obtain⟨H,u,z,N,J,M⟩:=G;have y:(Builtin.clear_ #[t] o.type #[.map (some b)]).run P w= .ok (.tuple #[]) (Go.ChangeMaps.setBlock w b (.map #[] u)):=by
  simp[Builtin.clear_,abT E,MapKept.run_getObj_map z,MapKept.run_setObj_map _ z,Result.andThen,Go.ChangeMaps.setBlock]
 unfold Oper.wp;simp[execOp,A,resolve,invoke,builtin,C,y,Result.andThen];refine D _ _ (h _ ⟨#[],u,Go.ChangeMaps.heap_setBlock_same z _,⟨by simp,MapKept.stamped_empty _,by simp⟩,Nat.le_refl _,rfl⟩ ⟨H,u,#[],u,z,rfl⟩)
def dR(w:World)(b r:Nat)(l:List (κ×Value))(left:κ->Bool)(m:Nat):Prop:=
 ∃L:Lit->Bool,w.ranges P K ou b r l.length (zA F l) L m/\∀k,L (F.lit k)=left k
variable{F}
theorem dR.map{b r m:Nat}{l:List (κ×Value)}{left:κ->Bool}(h:dR F w b r l left m):MapAt F w b l:=by
 obtain⟨L,h,_⟩:=h;exact h.owns
theorem dR.kept{w':World}{b r z:Nat}{l:List (κ×Value)}{left:κ->Bool}(h:dR F w b r l left z)(A:w'.heap[b]? =w.heap[b]?)(B:w'.heap[r]? =w.heap[r]?):dR F w' b r l left z:=by
 obtain⟨L,⟨K,m,u,y,H,E,I,D,G,C,rest⟩,J⟩:=h;exact⟨L,⟨K,m,u,y,H,A.trans E,I,D,G,B.trans C,rest⟩,J⟩
theorem dR.lt{b r m:Nat}{l:List (κ×Value)}{left:κ->Bool}(h:dR F w b r l left m):b<w.heap.size/\r<w.heap.size/\r≠b:=by
 obtain⟨L,h,_⟩:=h;exact⟨h.owns.lt,h.lt,h.ne⟩
theorem dR.measure{b r m:Nat}{l:List (κ×Value)}{left:κ->Bool}(h:dR F w b r l left m):w.rangeLeft b r=m:=by
 obtain⟨L,h,_⟩:=h;exact h.left_eq
theorem dR.sub{b r y:Nat}{l:List (κ×Value)}{left:κ->Bool}(h:dR F w b r l left y){k:κ}(C:left k=true):∃v,au k l=some v:=by
 obtain⟨L,⟨J,m,z,B,Q,U,V,S,E,R,_,_,_,u,_⟩,I⟩:=h;rw[<-I]at C;obtain⟨x,M,e⟩:=u _ C;have G:(WideElems.rg P K ou x)∈(J.toList.map (WideElems.rg P K ou)).foldr DataW.insert []:=(sorted_perm _).mem_iff.2 (List.mem_map.2 ⟨x,M,rfl⟩);simp only[zA,DataW.map.injEq]at E;rw[<-E]at G;obtain⟨p,H,O⟩:=List.mem_map.1 G;have:F.lit p.1=F.lit k:=by rw[<-e,<-O]
 have A:p.1=k:=by
  have D:=F.same p.1 k;rw[this,WideAt.sameKey_self (F.isKey _)]at D;simpa using D.symm
 cases N:au k l with
 |some v=>exact⟨v,rfl⟩
 |none=>exact absurd A (pV.1 N p H)
variable(F)
theorem jI(A:o.guard=none)(m:Operand)(t e:TypeId)(y:o.op=Op.range t m)(D:P.underlying t=some (.map K e)){b:Nat}{l:List (κ×Value)}(B:a.eval m= .map (some b))(G:MapAt F w b l)
  (h:∀w',dR F w' b w.heap.size l (λ k=>(au k l).isSome) l.length->Below w.heap.size w w'->w'.heap.size=w.heap.size+1->wpList P ops Q rest (a.put o.dst (.pointer (some ⟨w.heap.size,0,none⟩))) w'):wpList P ops Q (o::rest) a w:=by
 refine wpList_range_own w A m t y K e F.law D ou b l.length (zA F l) B G λ w' z u E=> ?_;rw[mV]at z;exact h w' ⟨_,z,λ k=>QI F k l⟩ ⟨u.os,u.tape,u.output,u.size,λ i C=>u.block i C (by simp)⟩ E
theorem kE(hg:o.guard=none)(U:Operand)(S:o.op=Op.next U false){b r B:Nat}{l:List (κ×Value)}{left:κ->Bool}(N:a.eval U= .pointer (some ⟨r,0,none⟩))(M:dR F w b r l left B)
  (C:(∀k,left k=false)->wpList P ops Q rest (a.put o.dst (.tuple #[.bool false])) w)
  (u:∀(k:κ) (v:Value) (w':World) (m:Nat),F.ok k->left k=true->au k l=some v->dR F w' b r l (λ z=>left z&& !decide (z=k)) m->m<B->Keeps (λ x=>x=r) w w'->w'.heap.size=w.heap.size->
   (Instr.entry (.pointer (some ⟨r,0,none⟩))).run P w'= .ok (.tuple #[F.val k,v]) w'->wpList P ops Q rest (a.put o.dst (.tuple #[.bool true,F.val k,v])) w'):
  wpList P ops Q (o::rest) a w:=by
 have D:=λ k W=>dR.sub M (k:=k) W;obtain⟨L,M,V⟩:=M
 refine wpList_next_ranges w hg U S K F.law ou F.val (λ v:Value=>v) (λ R kl W=>by obtain⟨x,e,_⟩:=F.inv R kl W;exact⟨x,e⟩) (λ v y _=>⟨v,rfl⟩) b r l.length (zA F l) L B N M
  (λ _ h0=>C (λ k=>by rw[<-V];exact h0 _)) ?_
 intro x c kl y w' m G A hc ak X av Z O E;obtain⟨I,ex,rfl,Y⟩:=F.inv _ _ G;have H:left I=true:=by rw[<-V];exact A
 obtain⟨v,hv⟩:=D I H;have J:=ak .nil;rw[Jg,hv]at J;simp only[ou,aae]at hc;rw[<-hc]at J;simp only[DataW.held.injEq]at J;subst J;rw[ex]at E⊢;refine u I v w' m Y H hv ⟨_,X,λ k=> ?_⟩ av ((Keeps.grown Z).mono λ z _ hz=>by simpa using hz.symm) O E;show(L (F.lit k)&& !(F.lit k).sameKey (F.lit I))=_;rw[V,F.same]
end
