/- A call never takes back what was drawn: shown for each step of the machine. slices.SortFunc over paths: the row holds them in another order. slices.SortFunc of no paths. -/
import Derived.Test.YtjnhnlabpccgjaaGreatM01
import Derived.Calls
import Derived.Test.YtjnhnlabpccgjaaGreatM14
namespace Go.Proofs.YtjnhnlabpccgjaaGreat
open Go
set_option linter.unusedVariables false
set_option linter.unusedSimpArgs false
theorem vN {α:Type}:∀(a:Ask α) (w:World),w.drawn≤(w.ask a).2.drawn
 | .done a,w=>Nat.le_refl _
 | .ask what range k,w=>by
  unfold World.ask
  simp only
  split
  ·exact vN _ w
  ·exact Nat.le_trans (Nat.le_succ _) (vN (k _) {w with drawn:=w.drawn+1})
theorem vO (w:World) (c:Sys):w.drawn≤(w.sys c).2.drawn:=by
 unfold World.sys
 have h:=vN (Kernel.perform c w.os) w
 split
 ·exact Nat.le_refl _
 ·rename_i e
  rw[e]at h
  exact h
theorem xg {p:Program} {w w':World} {at_:Addr} {u:TypeId} {k:Addr} {v:Value} {atomic:Bool} {l:List Addr} (h:World.viewStore p w at_ u k v atomic= .ok (w',l)):w'.drawn=w.drawn:=by
 unfold World.viewStore at h
 simp only[bind,Except.bind,pure,Except.pure]at h
 repeat' (split at h)
 all_goals (first|(cases h;done)|(cases h;rfl))
theorem qH {p:Program} {w w':World} {a:Addr} {v:Value} {atomic:Bool} {l:List Addr} (h:w.farStore p a v atomic= .ok (w',l)):w'.drawn=w.drawn:=by
 unfold World.farStore at h
 split at h
 ·split at h
  ·rename_i e
   cases h
   exact xg e
  ·cases h
 ·cases h
def LV {α:Type}:Result α→World| .ok _ w=>w| .halt _ w=>w
theorem uw (w:World) (a:Addr) (n:Nat):(w.freeze a n).drawn=w.drawn:=by
 unfold World.freeze
 split<;>rfl
theorem kM {α:Type} (p:Program):∀(s:Sem α) (w:World) (es:Array Event),w.drawn≤(LV (s.runT p w es).1).drawn:=by
 intro s
 induction s with
 |pure a=>intro w es;exact Nat.le_refl _
 |load m a k ih=>
  intro w es
  unfold Sem.runT
  split
  ·exact ih _ _ _
  ·split
   ·exact ih _ _ _
   ·exact Nat.le_refl _
 |store m a v k ih=>
  intro w es
  cases v<;>unfold Sem.runT<;>first
   |exact Nat.le_refl _
   |(split
     ·split
      ·exact Nat.le_refl _
      ·exact ih (w.setCell a _) _
     ·split
      ·rename_i e
       rw[←qH e]
       exact ih _ _
      ·exact Nat.le_refl _)
 |new o k ih=>intro w es;exact ih _ {w with heap:=w.heap.push o} es
 |shape r k ih=>intro w es;exact ih _ w es
 |freeze a n k ih=>
  intro w es
  have:=ih (w.freeze a n) es
  rw[uw]at this
  exact this
 |frozen a k ih=>intro w es;exact ih _ w es
 |getObj r k ih=>
  intro w es
  unfold Sem.runT
  split
  ·exact Nat.le_refl _
  ·exact ih _ _ _
  ·exact Nat.le_refl _
 |setObj r o k ih=>
  intro w es
  unfold Sem.runT
  split
  ·exact Nat.le_refl _
  ·exact ih {w with heap:=w.heap.setIfInBounds r o} _
  ·exact Nat.le_refl _
 |choose q k ih=>
  intro w es
  unfold Sem.runT
  split
  ·exact ih _ _ _
  ·exact Nat.le_trans (Nat.le_succ _) (ih _ {w with drawn:=w.drawn+1} es)
 |sys c k ih=>
  intro w es
  exact Nat.le_trans (vO w c) (ih _ (w.sys c).2 _)
 |program k ih=>intro w es;exact ih _ w es
 |mark m k ih=>intro w es;exact ih w _
 |halt h=>intro w es;exact Nat.le_refl _
theorem vP {α:Type} (p:Program):∀(s:Sem α) (w:World),w.drawn≤(LV (s.run p w)).drawn:=by
 intro s
 induction s with
 |pure a=>intro w;exact Nat.le_refl _
 |load m a k ih=>
  intro w
  unfold Sem.run
  split
  ·exact ih _ _
  ·split
   ·exact ih _ _
   ·exact Nat.le_refl _
 |store m a v k ih=>
  intro w
  cases v<;>unfold Sem.run<;>first
   |exact Nat.le_refl _
   |(split
     ·split
      ·exact Nat.le_refl _
      ·exact ih (w.setCell a _)
     ·split
      ·rename_i e
       rw[←qH e]
       exact ih _
      ·exact Nat.le_refl _)
 |new o k ih=>intro w;exact ih _ {w with heap:=w.heap.push o}
 |shape r k ih=>intro w;exact ih _ w
 |freeze a n k ih=>
  intro w
  have:=ih (w.freeze a n)
  rw[uw]at this
  exact this
 |frozen a k ih=>intro w;exact ih _ w
 |getObj r k ih=>
  intro w
  unfold Sem.run
  split
  ·exact Nat.le_refl _
  ·exact ih _ _
  ·exact Nat.le_refl _
 |setObj r o k ih=>
  intro w
  unfold Sem.run
  split
  ·exact Nat.le_refl _
  ·exact ih {w with heap:=w.heap.setIfInBounds r o}
  ·exact Nat.le_refl _
 |choose q k ih=>
  intro w
  unfold Sem.run
  split
  ·exact ih _ _
  ·exact Nat.le_trans (Nat.le_succ _) (ih _ {w with drawn:=w.drawn+1})
 |sys c k ih=>
  intro w
  exact Nat.le_trans (vO w c) (ih _ (w.sys c).2)
 |program k ih=>intro w;exact ih _ w
 |mark m k ih=>intro w;exact ih w
 |halt h=>intro w;exact Nat.le_refl _
theorem OI {α:Type} {p:Program} {s:Sem α} {w w':World} {es es':Array Event} {a:α} (h:s.runT p w es=(.ok a w',es')):w.drawn≤w'.drawn:=by
 have:=kM p s w es
 rw[h]at this
 exact this
theorem iV {α:Type} {p:Program} {s:Sem α} {w w':World} {a:α} (h:s.run p w= .ok a w'):w.drawn≤w'.drawn:=by
 have:=vP p s w
 rw[h]at this
 exact this
theorem sM {α:Type} {p:Program} {s:Sem α} {w w':World} {x:Halt} (h:s.run p w= .halt x w'):w.drawn≤w'.drawn:=by
 have:=vP p s w
 rw[h]at this
 exact this
theorem OJ {α:Type} {p:Program} {s:Sem α} {w w':World} {es es':Array Event} {x:Halt} (h:s.runT p w es=(.halt x w',es')):w.drawn≤w'.drawn:=by
 have:=kM p s w es
 rw[h]at this
 exact this
theorem lD {α:Type} {p:Program} {s:Sem α} {w w':World} {es:Array Event} {a:α} (h:(s.runT p w es).1= .ok a w'):w.drawn≤w'.drawn:=by
 have:=kM p s w es
 rw[h]at this
 exact this
theorem n_ {α:Type} {p:Program} {s:Sem α} {w w':World} {es:Array Event} {x:Halt} (h:(s.runT p w es).1= .halt x w'):w.drawn≤w'.drawn:=by
 have:=kM p s w es
 rw[h]at this
 exact this
def stepW:GStep→World
 | .go _ w _=>w
 | .comm _ _ _ _ w _=>w
 | .spawn _ _ w _=>w
 | .count _ w _=>w
 | .timer _ _ w _=>w
 | .alone _ _ w _=>w
 | .newcoro _ _ _ w _=>w
 | .coroswitch _ _ _ w _=>w
 | .collect _ w _=>w
 | .watch _ w _=>w
 | .ended _ w _=>w
theorem jJ (es:Array Event) (s:GStep):(stepW (s.after es))=(stepW s):=by cases s<;>rfl
theorem Ab (w:World) (fd:Nat) (text:ByteArray) (o:Outcome):w.drawn≤(stepW (endWith w fd text o)).drawn:=by
 unfold endWith
 have h:=vO w (.write fd text)
 simp only
 split
 ·rename_i e
  rw[e]at h
  split<;>exact h
 ·rename_i e
  rw[e]at h
  exact h
 ·rename_i e
  rw[e]at h
  exact h
theorem nC (p:Program) (fr:Frame) (v:Value) (w:World):(stepW (endPrinting p fr v w))=w:=by
 unfold endPrinting
 simp only
 split<;>rfl
theorem qI (p:Program) (fr:Frame) (callers:List Frame) (dying:Option Dying) (m:String) (w:World):w.drawn≤(stepW (endFatal p fr callers dying m w)).drawn:=by
 unfold endFatal
 simp only
 split
 ·rename_i e;exact iV e
 ·rename_i e;exact sM e
 ·rename_i e;exact sM e
theorem Ac (p:Program) (fr:Frame) (d:Dying) (f:Fatal) (w:World):w.drawn≤(stepW (writeOn p fr d f w)).drawn:=by
 unfold writeOn
 simp only
 split
 ·exact Nat.le_refl _
 ·split
  all_goals (rename_i e;first|exact OI e|exact OJ e)
theorem Jl (p:Program) (fr:Frame) (d:Dying) (w:World):w.drawn≤(stepW (die p fr d w)).drawn:=by
 unfold die
 simp only
 split
 ·exact Ac _ _ _ _ _
 ·split
  ·split
   ·exact Nat.le_refl _
   ·exact Ab _ _ _ _
  ·split
   ·exact Nat.le_refl _
   ·split
    ·rename_i e;exact iV e
    ·rename_i e;exact sM e
   ·rw[jJ]
    split
    all_goals (first|(rename_i e;exact lD e)|(rename_i e;exact n_ e)|(rename_i e;rw[nC];exact n_ e)|exact Nat.le_refl _)
   ·exact Nat.le_refl _
theorem kW {α:Type} {c:Prop} [Decidable c] {P:α→Prop} {a b:α} (ha:P a) (hb:P b):P (if c then a else b):=by
 split
 ·exact ha
 ·exact hb
theorem ko (p:Program) (main:Bool) (fr:Frame) (callers:List Frame) (dying:Option Dying) (v:Value) (w:World):(stepW (doReturn p main fr callers dying v w))=w:=by
 unfold doReturn
 simp only
 (repeat' split)<;>rfl
theorem sN (p:Program) (fr:Frame) (callers:List Frame) (dying:Option Dying) (d:Deferred) (w:World):w.drawn≤(stepW (callDeferred p fr callers dying d w)).drawn:=by
 unfold callDeferred
 simp only
 refine kW (P:=fun s:GStep=>w.drawn≤(stepW s).drawn) (Nat.le_refl _) ?_
 rw[jJ]
 have hk:=kM p (invoke d.target d.args) w #[]
 generalize (Sem.runT p (invoke d.target d.args) w #[]).1=r at hk⊢
 split
 all_goals (try simp only[LV]at hk)
 all_goals (first|exact hk|skip)
 all_goals (repeat' split)
 all_goals (first|exact hk|exact Nat.le_trans hk (qI _ _ _ _ _ _)|skip)
theorem Cj (p:Program) (main:Bool) (fr:Frame) (callers:List Frame) (dying:Option Dying) (w:World):w.drawn≤(stepW (unwind p main fr callers dying w)).drawn:=by
 unfold unwind
 simp only
 split
 ·rw[jJ]
  split
  all_goals (rename_i e;first|exact lD e|exact n_ e)
 ·exact sN _ _ _ _ _ _
 ·split
  ·exact Nat.le_refl _
  ·split
   ·exact Nat.le_refl _
   ·split
    ·exact Nat.le_refl _
    ·split
     ·split
      ·exact Nat.le_refl _
      ·split
       all_goals (rename_i e;first|exact iV e|exact sM e)
     ·split
      ·rw[nC];exact Nat.le_refl _
      ·exact Nat.le_refl _
  ·split
   ·rw[ko];exact Nat.le_refl _
   ·rw[jJ]
    split
    all_goals (rename_i e;first|exact n_ e|exact lD e|(rw[ko];exact lD e))
theorem DC (p:Program) (fr:Frame) (callers:List Frame) (dying:Option Dying) (g:Nat) (w:World):w.drawn≤(stepW (early p fr callers dying g w)).drawn:=by
 have hn:∀w1:World,(stepW (match w1.heap[g]? with
  |some (.pending c elem)=>GStep.go {frame:=fr,callers,status:= .running,dying} {w1 with heap:=w1.heap.setIfInBounds g (.cells c elem)}
  |_=> .ended (.stuck "early: the variable does not wait" (fr.pos p)) w1)).drawn=w1.drawn:=by
  intro w1
  split<;>rfl
 unfold early
 simp only
 split
 ·exact Nat.le_of_eq (hn w).symm
 ·split
  ·exact Nat.le_refl _
  ·split
   ·exact Nat.le_of_eq (hn w).symm
   ·split
    ·exact Nat.le_of_eq (hn w).symm
    ·split
     ·exact Nat.le_refl _
     ·exact Nat.le_refl _
     ·exact Nat.le_refl _
     ·exact Nat.le_of_eq (hn w).symm
     ·split
      ·exact Nat.le_refl _
      ·split
       ·exact Nat.le_of_eq (hn w).symm
       ·split
        ·rename_i e;exact Nat.le_trans (iV e) (Nat.le_of_eq (hn _).symm)
        ·rename_i e;exact iV e
        ·rename_i e;exact sM e
theorem lF (p:Program) (listen:Bool) (fr:Frame) (callers:List Frame) (dying:Option Dying) (s:Sem Next) (w:World):w.drawn≤(stepW (stepG.apply p listen fr callers dying s w)).drawn:=by
 unfold stepG.apply
 simp only
 rw[jJ]
 have key:∀r:Result Next,(if listen=true then s.runT p w #[]else(s.run p w,#[])).1=r→w.drawn≤(LV r).drawn:=by
  intro r h
  split at h
  ·rw[←h];exact kM _ _ _ _
  ·rw[←h];exact vP _ _ _
 generalize (if listen=true then s.runT p w #[]else(s.run p w,#[])).1=r at key⊢
 have hk:=key r rfl
 clear key
 split
 all_goals (try simp only[LV]at hk)
 all_goals (first|exact hk|skip)
 all_goals (repeat' split)
 all_goals (first|exact hk|exact Nat.le_trans hk (qI _ _ _ _ _ _)|exact Nat.le_trans hk (DC _ _ _ _ _ _)|skip)
theorem yG (p:Program) (listen:Bool) (fr:Frame) (callers:List Frame) (dying:Option Dying) (w:World):w.drawn≤(stepW (stepG.oper p listen fr callers dying w)).drawn:=by
 unfold stepG.oper
 split
 ·exact Nat.le_refl _
 ·split
  ·exact lF _ _ _ _ _ _ _
  ·exact lF _ _ _ _ _ _ _
theorem DF {α β:Type} {P:β→Prop} (o:Option α) {d:β} {f:α→β} (h1:P d) (h2:∀k,P (f k)):P (o.elim d f):=by
 cases o with
 |none=>exact h1
 |some k=>exact h2 k
theorem FU (p:Program) (main listen:Bool) (fr:Frame) (callers:List Frame) (dying:Option Dying) (w:World):w.drawn≤(stepW (stepG.exec p main listen fr callers dying w)).drawn:=by
 have hl:∀jump:Option Code,w.drawn≤(stepW (match fr.roundOf with
   |none=>if jump matches none|some .ret then GStep.go {frame:={fr with mode:= .returning},callers,status:= .running,dying} w else .ended (.stuck "exit, goto: no such block or label" (fr.pos p)) w
   |some l=>
    let(r,es):=(Instr.endRound l jump).runT p w #[]
    GStep.after (seen p fr.fn es)<|match r with
    | .ok v w=>doReturn p main fr callers dying v w
    | .halt _ w=> .ended (.stuck "range over a function: no such loop" (fr.pos p)) w)).drawn:=by
  intro jump
  split
  ·exact kW (P:=fun s:GStep=>w.drawn≤(stepW s).drawn) (Nat.le_refl _) (Nat.le_refl _)
  ·simp only
   rw[jJ]
   split
   ·rename_i e;rw[ko];exact lD e
   ·rename_i e;exact n_ e
 unfold stepG.exec
 simp only
 split
 all_goals (first|exact Nat.le_refl _|exact hl _|exact lF _ _ _ _ _ _ _|skip)
 all_goals (first|refine DF (P:=fun s:GStep=>w.drawn≤(stepW s).drawn) _ ?_ (fun k=>Nat.le_refl _)|refine DF (P:=fun s:GStep=>w.drawn≤(stepW s).drawn) _ (Nat.le_refl _) (fun k=>lF _ _ _ _ _ _ _)|skip)
 all_goals (repeat' (first|exact Nat.le_refl _|rw[jJ]|split))
 all_goals (first|exact Nat.le_refl _|(rename_i e;first|exact lD e|exact n_ e|(rw[ko];exact lD e)|exact iV e|exact sM e|exact Nat.le_trans (lD e) (lF _ _ _ _ _ _ _)|exact yG _ _ _ _ _ _)|exact yG _ _ _ _ _ _|skip)
theorem DI (p:Program) (main:Bool) (g:Goroutine) (w:World) (listen:Bool):w.drawn≤(stepW (stepG p main g w listen)).drawn:=by
 unfold stepG
 simp only
 split
 ·exact Jl _ _ _ _
 ·exact FU _ _ _ _ _ _ _
 ·exact Cj _ _ _ _ _ _
def Stepped.after (w:World) (s:Stepped):Prop:=∀m,s= .next m→w.drawn≤m.world.drawn
theorem bF {w w':World} {o:Outcome}:Stepped.after w (.ended o w'):=fun m h=>by cases h
theorem bR {w:World} {m:Machine} (h:w.drawn≤m.world.drawn):Stepped.after w (.next m):=fun m' h'=>by cases h';exact h
theorem xk {rest:Rest} {Rs:Array CommCase} {w w':World} (h:waitingAt rest Rs w=some w'):w'.drawn=w.drawn:=by
 unfold waitingAt at h
 split at h
 ·split at h
  ·cases h;rfl
  ·cases h
 ·cases h;rfl
theorem uy (p:Program) (rest:Rest) (gs:Array Goroutine) (i:Nat) (g:Goroutine) (cs:Array CommCase) (blocking:Bool) (shape:CommShape) (w:World):Stepped.after w (communicate p rest gs i g cs blocking shape w).1:=by
 unfold communicate
 simp only
 refine kW (P:=fun s:Stepped×Array MemOp=>Stepped.after w s.1) bF ?_
 refine kW (P:=fun s:Stepped×Array MemOp=>Stepped.after w s.1) ?_ ?_
 ·refine kW (P:=fun s:Stepped×Array MemOp=>Stepped.after w s.1) ?_ (bR (Nat.le_refl _))
  split
  ·rename_i e
   exact bR (Nat.le_of_eq (xk e).symm)
  ·exact bF
 ·split
  ·exact bF
  ·rename_i e
   have hk:=iV e
   clear e
   split
   ·split
    ·rename_i e
     exact bR (Nat.le_trans hk (sM e))
    ·exact bF
   ·exact bR hk
   ·exact bR hk
   ·split
    ·exact bR hk
    ·split
     ·rename_i e
      exact bR (Nat.le_trans hk (by have:=iV e;exact this))
     ·exact bF
   ·exact bR hk
   ·exact bR hk
   ·exact bF
theorem yH (p:Program) (gs:Array Goroutine) (rest:Rest) (w:World):Stepped.after w (look p gs rest w):=by
 unfold look
 split
 ·simp only
  refine kW (P:=fun s:Stepped=>Stepped.after w s) bF ?_
  split
  ·exact bF
  ·split
   ·rename_i e
    exact bR (by have:=iV e;exact this)
   ·exact bF
   ·exact bF
 ·exact bF
theorem DJ (p:Program) (m:Machine) (k:Nat):Stepped.after m.world (serve p m k):=by
 unfold serve
 split
 ·exact bF
 ·exact bR (Nat.le_refl _)
 ·simp only
  split
  ·exact bF
  ·exact bR (Nat.le_refl _)
theorem DK (w:World) (c:Nat):(drain w c).2.drawn=w.drawn:=by
 unfold drain
 split<;>rfl
theorem uz (m:Machine) (k:Nat) (t:Timer) (a b:Nat):(retime m k t a b).2.world.drawn=m.world.drawn:=by
 unfold retime
 cases t.chan with
 |none=>rfl
 |some c=>exact DK _ _
theorem Ck {m m':Machine} {var:Addr} (h:timerOp.opened m var=some m'):m'.world.drawn=m.world.drawn:=by
 unfold timerOp.opened at h
 split at h
 ·split at h
  ·cases h;rfl
  ·cases h
 ·cases h;rfl
theorem wJ {m m':Machine} {var:Addr} {f:Nat→Timer→Value×Machine} {v:Value} {d:Nat} (hf:∀k t,(f k t).2.world.drawn=d) (h:timerOp.named m var f= .ok (v,m')):m'.world.drawn=d:=by
 unfold timerOp.named at h
 split at h
 ·rename_i k _
  have:=hf k (m.rest.timers.getD k default)
  generalize f k (m.rest.timers.getD k default)=r at this h
  cases h
  exact this
 ·cases h
theorem Ad {m m':Machine} {op:TimerOp} {v:Value} (h:timerOp m op= .ok (v,m')):m'.world.drawn=m.world.drawn:=by
 unfold timerOp at h
 split at h
 ·split at h
  ·cases h;rfl
  ·split at h
   ·split at h
    ·cases h
    ·cases h;rfl
   ·cases h
 ·exact wJ (fun k t=>uz _ _ _ _ _) h
 ·split at h
  ·rename_i e
   exact wJ (fun k t=>(uz _ _ _ _ _).trans (Ck e)) h
  ·cases h
 ·cases h;rfl
theorem vQ (p:Program) (m:Machine) (i:Nat) (listen:Bool):Stepped.after m.world (runT p m i listen).1:=by
 unfold runT
 simp only
 have hk:=DI p (i==0) (m.gs.swapAt! i {(default:Goroutine)with status:= .finished}).1 m.world listen
 generalize stepG p (i==0) (m.gs.swapAt! i {(default:Goroutine)with status:= .finished}).1 m.world listen=s at hk⊢
 cases s with
 |ended o w es=>exact bF
 |comm g cs b sh w es=>
  intro m' h'
  exact Nat.le_trans hk (uy _ _ _ _ _ _ _ _ _ m' h')
 |go g w es=>exact bR hk
 |spawn g c w es=>exact bR hk
 |count g w es=>exact kW (P:=fun s:Stepped=>Stepped.after m.world s) bF (bR hk)
 |alone g on w es=>exact bR hk
 |collect g w es=>
  intro m' h'
  exact Nat.le_trans hk (yH _ _ _ _ m' h')
 |watch g w es=>exact bR hk
 |newcoro g c d w es=>exact bR hk
 |coroswitch g c ex w es=>
  simp only
  split
  ·exact bR hk
  ·exact bR hk
  ·exact bF
 |timer g op w es=>
  simp only
  split
  ·rename_i e
   exact bR (Nat.le_trans hk (Nat.le_of_eq (Ad e).symm))
  ·exact bR hk
  ·exact bF
  ·exact bF
def Move.after (w:World):Move→Prop
 | .goroutine m _=>w.drawn≤m.world.drawn
 | .machine s _=>Stepped.after w s
theorem Move.trans {w w1:World} {m:Move} (h:w.drawn≤w1.drawn) (k:Move.after w1 m):Move.after w m:=by
 cases m with
 |goroutine m i=>exact Nat.le_trans h k
 |machine s ops=>exact fun m' h'=>Nat.le_trans h (k m' h')
theorem sO (p:Program) (rs:List Nat) (m:Machine):Move.after m.world (match (choose (.sched rs.length)).run p m.world with
   | .halt _ w=> .machine (.ended (.stuck "sched" "") w)
   | .ok k world=>
    if rs.length≤1 then .goroutine {m with world} (rs.getD k 0)else
    match (choose (.extern "sched.slice" 65536)).run p world with
    | .halt _ w=> .machine (.ended (.stuck "sched.slice" "") w)
    | .ok n world=> .goroutine {m with world,rest:={m.rest with slice:=if n=0 then none else some (rs.getD k 0,n)}} (rs.getD k 0)):=by
 split
 ·exact bF
 ·rename_i e
  have hk:=iV e
  refine kW (P:=fun s:Move=>Move.after m.world s) hk ?_
  split
  ·exact bF
  ·rename_i e2
   exact Nat.le_trans hk (iV e2)
theorem qJ (p:Program) (m:Machine):Move.after m.world (askOn p m):=by
 unfold askOn
 simp only
 split
 ·exact bF
 ·rename_i e
  have hk:=iV e
  refine kW (P:=fun s:Move=>Move.after m.world s) (fun m' h'=>Nat.le_trans hk (DJ _ _ _ m' h')) ?_
  split
  ·split
   ·exact bR hk
   ·refine kW (P:=fun s:Move=>Move.after m.world s) (bR hk) ?_
    split<;>exact bF
  ·split
   ·exact Move.trans hk (sO p _ {m with world:=_})
   ·split
    ·exact bF
    ·rename_i e2
     exact Move.trans (Nat.le_trans hk (iV e2)) (sO p _ {m with world:=_})
    ·rename_i e2
     exact bR (Nat.le_trans hk (by have:=iV e2;exact this))
    ·rename_i e2
     exact Move.trans (Nat.le_trans hk (iV e2)) (sO p _ (Machine.advanceTo {m with world:=_} _))
theorem yI (p:Program) (m:Machine):Move.after m.world (ask p m):=by
 unfold ask
 split
 ·split
  ·exact bF
  ·rename_i e
   have hk:=iV e
   have hl:=yH p m.gs m.rest ‹World›
   split
   ·rename_i m' e2
    exact Move.trans (Nat.le_trans hk (hl _ e2)) (qJ p m')
   ·intro m' h'
    exact Nat.le_trans hk (hl _ h')
  ·rename_i e
   exact Move.trans (iV e) (qJ p {m with world:=_})
 ·exact qJ p m
theorem FV (p:Program) (m:Machine):Move.after m.world (move p m):=by
 unfold move
 split
 ·split
  ·exact Nat.le_refl _
  ·exact bF
 ·split
  ·split
   ·exact Nat.le_refl _
   ·exact yI p {m with rest:=_}
  ·exact yI p m
theorem FW (p:Program) (m:Machine):Stepped.after m.world (step p m):=by
 unfold step stepT
 have h:=FV p m
 generalize move p m=v at h
 cases v with
 |goroutine m' i=>exact fun m2 h2=>Nat.le_trans h (vQ p m' i true m2 h2)
 |machine s ops=>exact h
theorem sP (p:Program):∀(n:Nat) (m m':Machine),runN p n m= .next m'→m.world.drawn≤m'.world.drawn
 |0,m,m',h=>by cases h;exact Nat.le_refl _
 |n+1,m,m',h=>by
  have hs:=FW p m
  unfold runN at h
  cases e:step p m with
  |next m1=>rw[e]at h;exact Nat.le_trans (hs m1 e) (sP p n m1 m' h)
  |ended o w=>rw[e]at h;cases h
theorem DL {P:Program} {f:FuncId} {args:Array Value} {w:World} {R:Ending→World→Prop} (h:Calls P f args w R):Calls P f args w fun e w'=>R e w'∧(e≠ .outgrown→w.drawn≤w'.drawn):=by
 intro cs
 obtain⟨e,w',fr,hR,hc,hrest⟩:=h cs
 refine⟨e,w',fr,⟨hR,fun hne=> ?_⟩,hc,hrest⟩
 cases e with
 |outgrown=>exact absurd rfl hne
 |returned v=>obtain⟨n,hn⟩:=hc;exact sP P n _ _ hn
 |panicked c=>obtain⟨n,hn⟩:=hc;exact sP P n _ _ hn
open Go.ChangeShapes Go.WideShapes Go.ChangeAt Go.RowKit
theorem xA (a b:UInt8) (l1 l2:List UInt8):Lib.compareBytes (a::l1) (b::l2)=if a.toNat<b.toNat then-1 else if b.toNat<a.toNat then 1 else Lib.compareBytes l1 l2:=by
 simp only[Lib.compareBytes,UInt8.lt_iff_toNat_lt]
theorem uD:∀a b:List UInt8,Lib.compareBytes b a= -Lib.compareBytes a b
 |[],[]=>rfl
 |[],_::_=>rfl
 |_::_,[]=>rfl
 |x::a,y::b=>by
  have ih:=uD a b
  rw[xA,xA]
  by_cases h1:x.toNat<y.toNat
  ·rw[if_neg (by omega),if_pos h1,if_pos h1];decide
  ·rw[if_neg h1]
   by_cases h2:y.toNat<x.toNat
   ·rw[if_pos h2,if_neg h1,if_pos h2]
   ·rw[if_neg h2,if_neg h2,if_neg h1];exact ih
theorem wK:∀a b c:List UInt8,Lib.compareBytes a b≤0→Lib.compareBytes b c≤0→Lib.compareBytes a c≤0
 |[],_,[],_,_=>by simp[Lib.compareBytes]
 |[],_,_::_,_,_=>by simp[Lib.compareBytes]
 |_::_,[],_,h,_=>by simp[Lib.compareBytes]at h
 |_::_,_::_,[],_,h=>by simp[Lib.compareBytes]at h
 |x::a,y::b,z::c,h1,h2=>by
  have ih:=wK a b c
  rw[xA]at h1 h2⊢
  by_cases e1:x.toNat<z.toNat
  ·rw[if_pos e1];decide
  ·rw[if_neg e1]
   by_cases f1:x.toNat<y.toNat
   ·rw[if_neg (by omega:¬y.toNat<z.toNat),if_pos (by omega)]at h2
    exact absurd h2 (by decide)
   ·rw[if_neg f1]at h1
    by_cases f2:y.toNat<x.toNat
    ·rw[if_pos f2]at h1
     exact absurd h1 (by decide)
    ·rw[if_neg f2]at h1
     by_cases g1:z.toNat<x.toNat
     ·rw[if_neg (by omega),if_pos (by omega)]at h2
      exact absurd h2 (by decide)
     ·rw[if_neg (by omega),if_neg (by omega)]at h2
      rw[if_neg g1]
      exact ih h1 h2
theorem wL:∀a b c:List UInt8,Lib.compareBytes a b<0→Lib.compareBytes b c<0→Lib.compareBytes a c<0
 |[],[],_,h,_=>by simp[Lib.compareBytes]at h
 |[],_::_,[],_,h=>by simp[Lib.compareBytes]at h
 |[],_::_,_::_,_,_=>by simp[Lib.compareBytes]
 |_::_,[],_,h,_=>by simp[Lib.compareBytes]at h
 |_::_,_::_,[],_,h=>by simp[Lib.compareBytes]at h
 |x::a,y::b,z::c,h1,h2=>by
  have ih:=wL a b c
  rw[xA]at h1 h2⊢
  by_cases e1:x.toNat<z.toNat
  ·rw[if_pos e1];decide
  ·rw[if_neg e1]
   by_cases f1:x.toNat<y.toNat
   ·rw[if_neg (by omega:¬y.toNat<z.toNat),if_pos (by omega)]at h2
    exact absurd h2 (by decide)
   ·rw[if_neg f1]at h1
    by_cases f2:y.toNat<x.toNat
    ·rw[if_pos f2]at h1
     exact absurd h1 (by decide)
    ·rw[if_neg f2]at h1
     by_cases g1:z.toNat<x.toNat
     ·rw[if_neg (by omega),if_pos (by omega)]at h2
      exact absurd h2 (by decide)
     ·rw[if_neg (by omega),if_neg (by omega)]at h2
      rw[if_neg g1]
      exact ih h1 h2
theorem Ig {α:Type} (f:α→List UInt8) (x y:α):ltOf (fun x y=>Lib.compareBytes (f x) (f y)) x y=decide (Lib.compareBytes (f x) (f y)<0):=rfl
theorem Rt {α:Type} (f:α→List UInt8):Sort.SWO (ltOf fun x y=>Lib.compareBytes (f x) (f y)) where
 irrefl x:=by
  have:=uD (f x) (f x)
  rw[Ig,decide_eq_false_iff_not]
  omega
 trans x y z h1 h2:=by
  rw[Ig,decide_eq_true_eq]at*
  exact wL _ _ _ h1 h2
 ntrans x y z h1 h2:=by
  rw[Ig,decide_eq_false_iff_not]at*
  have e1:=uD (f x) (f y)
  have e2:=uD (f y) (f z)
  have e3:=uD (f x) (f z)
  have:=wK (f z) (f y) (f x) (by omega) (by omega)
  omega
theorem DN {w w':World} (hb:Below w.heap.size w w') (hd:w.drawn≤w'.drawn):∃q os,w'=Sort.grow (w.drewN q) os:=by
 refine⟨w'.drawn-w.drawn,w'.heap.extract w.heap.size w'.heap.size,?_⟩
 have hs:=hb.size
 have hh:w'.heap=w.heap++w'.heap.extract w.heap.size w'.heap.size:=by
  apply Array.ext_getElem?
  intro i
  rw[Array.getElem?_append]
  split
  ·rename_i hi
   exact hb.block i hi
  ·rename_i hi
   rw[Array.getElem?_extract]
   split
   ·congr 1;omega
   ·rename_i h2
    rw[Array.getElem?_eq_none]
    omega
 cases w' with
 |mk heap tape drawn os output=>
  obtain⟨h1,h2,h3,_,_⟩:=hb
  simp only at h1 h2 h3 hh hd
  subst h1 h2 h3
  simp only[Sort.grow,World.drewN]
  rw[←hh]
  congr 1
  omega
theorem yJ {α:Type} [Inhabited α] (enc:α→Value) (w:World) (blk off n:Nat) (d:Array α) (os:Array Obj) {b:Nat} (hb:b<w.heap.size) (hne:b≠blk):(sortWorld enc w blk off n d os).heap[b]? =w.heap[b]? :=by
 unfold sortWorld
 rw[Sort.heap_grow_old _ _ (by simpa using hb)]
 unfold Sort.putRow Sort.mapBlock
 simp only[Sort.heap_ahead]
 rw[Array.getElem?_modify]
 rw[if_neg (fun h=>hne h.symm)]
theorem rH {α:Type} [Inhabited α] (enc:α→Value) (w:World) (blk off n:Nat) (d:Array α) (os:Array Obj):w.heap.size≤(sortWorld enc w blk off n d os).heap.size:=by
 unfold sortWorld
 rw[Sort.size_grow,Sort.size_putRow]
 simp
theorem FX {α:Type} [Inhabited α] (enc:α→Value) (w:World) (blk off n:Nat) (d:Array α) (os:Array Obj):Keeps (fun b=>b=blk) w (sortWorld enc w blk off n d os):=
 ⟨rfl,rfl,rfl,rH enc w blk off n d os,fun b hb hne=>yJ enc w blk off n d os hb hne⟩
structure uE (S:Nat→Prop) (w:World) where
 val:Value
 path:List Nm
 at_:gJ S w val path
 small:Small path
theorem yK {S:Nat→Prop} {w:World}:∀(l:List (List Nm)) (vals:List Value),jm S w vals l→(∀q∈l,Small q)→∃d:List (uE S w),d.map (fun x=>x.val)=vals∧d.map (fun x=>x.path)=l
 |[],vals,h,_=>⟨[],by rw[List.eq_nil_of_length_eq_zero h.1];rfl,rfl⟩
 |q::r,vals,h,hs=>by
  match vals,h with
  |[],h=>exact absurd h.1 (by simp)
  |v::vs,h=>
   have h0:=h.2 0 q rfl
   obtain⟨u,hu,hp⟩:=h0
   obtain rfl:v=u:=by simpa using hu
   obtain⟨d,h1,h2⟩:=yK r vs ⟨by have:=h.1;simp only[List.length_cons]at this;omega,fun i p hp=>h.2 (i+1) p (by simpa using hp)⟩ (fun p hp=>hs p (by simp[hp]))
   exact⟨⟨v,q,hp,hs q (by simp)⟩::d,by simp[h1],by simp[h2]⟩
theorem Jm:Small []:=⟨by simp,fun n hn=>by simp at hn⟩
theorem AZ (S:Nat→Prop) (w:World):gJ S w (.slice none 0 0) []:=⟨none,0,rfl,Nat.le_refl _,aj.nil _ _ _,fun s hs=>by simp at hs⟩
def LW (l:List (List Nm)):Prop:=l.Pairwise fun a b=>decide (Lib.compareBytes (eO b) (eO a)<0)=false
def OL (S:Nat→Prop) (blk:Nat) (w:World) (n:Nat) (l:List (List Nm)) (e:Ending) (w':World):Prop:=
 e= .returned (.tuple #[])∧∃vals' l',l'.Perm l∧jm (fun b=>b<w.heap.size∧b≠blk∧S b) w' vals' l'∧aj (fun b=>b=blk) w' (some ⟨blk,0,none⟩) n vals'∧Keeps (fun b=>b=blk) w w'∧LW l'
theorem FY {B:Nat} {S:Nat→Prop} (w:World) (blk n c:Nat) (vals:List Value) (l:List (List Nm)) (hn:n≤100000) (hrow:w.ownsRow B 61 1 (.slice (some ⟨blk,0,none⟩) n c) n vals) (hv:jm (fun b=>b≠blk∧S b) w vals l) (hsm:∀q∈l,Small q):
  Calls Tryz.prog 130 #[.slice (some ⟨blk,0,none⟩) n c, .func (.func 131) #[] #[]] w (OL S blk w n l):=by
 obtain⟨d,hd1,hd2⟩:=yK (S:=fun b=>b<w.heap.size∧b≠blk∧S b) l vals (hv.move (Nat.le_refl _) fun b hb hbw=>⟨⟨hbw,hb.1,hb.2⟩,rfl⟩) hsm
 haveI:Inhabited (uE (fun b=>b<w.heap.size∧b≠blk∧S b) w):=⟨⟨.slice none 0 0,[],AZ _ _,Jm⟩⟩
 obtain⟨hlen,hrow⟩:=hrow
 have hdn:d.length=n:=by
  have:=congrArg List.length hd1
  rw[List.length_map,hlen]at this
  omega
 rcases hrow with⟨h0,_⟩|⟨g,cap,cur,h1,hg,hcur,h2,h3,h4,h5⟩
 ·cases h0
 ·simp only[Value.slice.injEq,Option.some.injEq,Addr.mk.injEq,and_true,true_and]at h1
  obtain⟨rfl,rfl⟩:=h1
  have hbw:blk<w.heap.size:=(Array.getElem?_eq_some_iff.1 hcur).1
  have hH:Sort.Holds (fun x:uE (fun b=>b<w.heap.size∧b≠blk∧S b) w=>x.val) w blk 0 d.toArray:=by
   intro j hj
   have hj':j<d.length:=by simpa using hj
   refine⟨?_,?_⟩
   ·simp only[World.cell?,hcur,Nat.zero_add]
    have e1:cur.toList[j]? =vals[j]? :=by rw[←h5,List.getElem?_take,if_pos (by omega)]
    have e2:vals[j]? =some ((d[j]'hj').val):=by rw[←hd1,List.getElem?_map,List.getElem?_eq_getElem hj'];rfl
    have e3:(d.toArray[j]! :uE (fun b=>b<w.heap.size∧b≠blk∧S b) w)=d[j]'hj':=by rw[getElem!_pos _ j hj];simp
    rw[e3]
    rw[Array.getElem?_toList]at e1
    simpa using e1.trans e2
   ·simp only[World.frozen?,hcur]
    simp
  have hone:OneCell (fun x:uE (fun b=>b<w.heap.size∧b≠blk∧S b) w=>x.val):=fun x=>by
   obtain⟨a,c,e,_⟩:=x.at_
   simp only[e]
   rfl
  have hcmp:CmpLays1 Tryz.prog 131 #[] (fun x:uE (fun b=>b<w.heap.size∧b≠blk∧S b) w=>x.val) (fun x y=>Lib.compareBytes (eO x.path) (eO y.path)) blk 0 d.toArray.size w:=by
   intro m os dk hdk x y
   have hmv:∀z:uE (fun b=>b<w.heap.size∧b≠blk∧S b) w,gJ (fun _=>True) (sortWorld (fun x:uE (fun b=>b<w.heap.size∧b≠blk∧S b) w=>x.val) w blk 0 m dk os) z.val z.path:=fun z=>
    z.at_.move (rH _ w blk 0 m dk os) fun b hb Ru=>⟨trivial,yJ _ w blk 0 m dk os Ru hb.2.1⟩
   refine(DL (Dy (hmv x) (hmv y) x.small y.small)).mono ?_
   rintro e w' ⟨⟨rfl,hb⟩,hdr⟩
   exact⟨rfl,DN hb (hdr (by simp))⟩
  have hmain:=Tryz.slices_SortFunc (fun x:uE (fun b=>b<w.heap.size∧b≠blk∧S b) w=>x.val) hone (fun x y=>Lib.compareBytes (eO x.path) (eO y.path)) (Rt _) 131 #[] blk 0 c d.toArray w (enters_of Tryz.func131 (by kernel_rfl) rfl) hcmp hH hbw (by simp;omega)
  have hsz:d.toArray.size=n:=by simpa using hdn
  rw[hsz]at hmain
  refine hmain.mono ?_
  rintro e w' ⟨rfl,d',m,os,hp,hso,rfl⟩
  refine⟨rfl,d'.toList.map (fun x=>x.val),d'.toList.map (fun x=>x.path),?_,?_,?_,FX _ _ _ _ _ _ _,?_⟩
  ·obtain⟨hp1,_,hp2⟩:=hp
   rw[←hd2]
   refine List.Perm.map _ ?_
   have e1:d'.extract 0 n=d':=by rw[←hsz,←hp1];simp
   have e2:d.toArray.extract 0 n=d.toArray:=by rw[←hsz];simp
   rw[e1,e2]at hp2
   simpa using hp2
  ·refine⟨by simp,fun i q hq=> ?_⟩
   rw[List.getElem?_map]at hq
   cases hx:d'.toList[i]? with
   |none=>rw[hx]at hq;cases hq
   |some x=>
    rw[hx]at hq
    obtain rfl:x.path=q:=by simpa using hq
    refine⟨x.val,by rw[List.getElem?_map,hx];rfl,x.at_.move (rH _ w blk 0 m d' os) fun b hb Ru=>⟨hb,yJ _ w blk 0 m d' os Ru hb.2.1⟩⟩
  ·have hp1:d'.size=d.toArray.size:=hp.1
   have hh:=SW.holds (w0:=w) ⟨m,os,rfl⟩ hbw hH hp1
   refine⟨by simp[hp1,hsz],by unfold maxLen;omega,fun h0=>⟨blk,0,rfl,rfl,Nat.lt_of_lt_of_le hbw (rH _ w blk 0 m d' os),fun i hi=> ?_⟩⟩
   have hi':i<d'.size:=by rw[hp1,hsz];exact hi
   rw[(hh i hi').1,List.getElem?_map]
   rw[getElem!_pos d' i hi']
   rw[show d'.toList[i]? =some (d'[i]'hi')by rw[Array.getElem?_toList];exact Array.getElem?_eq_getElem hi']
   rfl
  ·unfold LW
   rw[List.pairwise_map,List.pairwise_iff_getElem]
   intro i j hi hj hij
   have hp1:d'.size=d.toArray.size:=hp.1
   have hi':i<d'.size:=by simpa using hi
   have hj':j<d'.size:=by simpa using hj
   have h9:=hso i j (Nat.zero_le _) hij (by rw[←hsz,←hp1];exact hj')
   rw[getElem!_pos d' i hi',getElem!_pos d' j hj',Ig]at h9
   simpa using h9
set_option maxHeartbeats 2000000 in
theorem yL (fv:Value) (w:World):Calls Tryz.prog 188 #[.slice none 0 0, .int .i64 0, .int .i64 0,fv] w fun e w'=>e= .returned (.tuple #[])∧w'=w:=by
 go_enter Tryz.func188,Tryz.ntmps188
 go_wp2
 refine wp_loop_rounds 1 ?_
 rw[rounds_succ]
 go_wp2
 go_end0
 exact⟨rfl,rfl⟩
set_option maxHeartbeats 2000000 in
theorem LX (lim:Int) (fv:Value) (w:World):Calls Tryz.prog 164 #[.slice none 0 0, .int .i64 0, .int .i64 0, .int .i64 lim,fv] w fun e w'=>e= .returned (.tuple #[])∧w'=w:=by
 go_enter Tryz.func164,Tryz.ntmps164
 go_wp2
 refine wp_loop_rounds 1 ?_
 rw[rounds_succ]
 go_wp2_with fail
 refine(yL _ _).mono ?_
 rintro e w' ⟨rfl,rfl⟩
 go_wp2_with fail
 (try simp only[Exit.inBlock,Exit.then])
 refine bodyPost_ret (results_none rfl _ _ _) rfl ?_
 exact⟨rfl,rfl⟩
set_option maxHeartbeats 2000000 in
theorem Jo (fv:Value) (w:World):Calls Tryz.prog 130 #[.slice none 0 0,fv] w fun e w'=>e= .returned (.tuple #[])∧w'=w:=by
 have hl:Calls Tryz.prog 162 #[.int .u64 0] w fun e w'=>e= .returned (.int .i64 (Lib.bitLen 0:Nat))∧w'=w:=Tryz.bits_Len 0 w (by omega) (by omega)
 go_enter Tryz.func130,Tryz.ntmps130
 go_wp2_with fail
 refine hl.mono ?_
 rintro e w' ⟨rfl,rfl⟩
 go_wp2_with fail
 refine(LX _ _ _).mono ?_
 rintro e w' ⟨rfl,rfl⟩
 go_wp2_with fail
 go_end0
 exact⟨rfl,rfl⟩
end Go.Proofs.YtjnhnlabpccgjaaGreat
