/- Lemmas -/
import Derived.Test.YtmflaonodghbcaaGreatDoorRows
import Derived.WalkKit
import Derived.ProofKit
import Derived.OpenShut
import Derived.Lib.Hide
import Derived.SizedLaws
set_option maxRecDepth 100000
set_option maxHeartbeats 64000000
set_option linter.all false
namespace Go.Proofs.YtmflaonodghbcaaGreatDoor
open Go.ChangeShapes Go.WideShapes Go.ChangeAt Go.RowKit
abbrev uh:=@Array.getElem?_eq_some_iff
abbrev Pd:=@Go.World.size_alloc
abbrev Pe:=@List.eq_nil_of_length_eq_zero
abbrev Vh:=@Decidable.byContradiction
abbrev aaf:=@decide_eq_false
abbrev aag:=@Option.some.injEq
abbrev aah:=@Go.IntWalk.i64_in
abbrev aai:=@List.take_succ_eq_append_getElem
abbrev aaj:=@List.getElem?_eq_some_iff
abbrev aak:=@Option.isSome_iff_exists
abbrev aal:=@decide_eq_true
abbrev aam:=@Option.map_some
abbrev aan:=@List.getElem?_toArray
abbrev aao:=@List.setIfInBounds_toArray
abbrev aap:=@Go.bodyPost_ret
abbrev aaq:=@List.mem_cons
abbrev aar:=@decide_eq_true_eq
abbrev aas:=@List.mem_append
abbrev aat:=@List.getElem?_take
abbrev aau:=@List.pairwise_cons
abbrev aav:=@List.getElem?_cons_zero
abbrev aaw:=@List.map_congr_left
abbrev aax:=@List.mem_filter
abbrev aay:=@Go.info_parts
abbrev aaz:=@List.map_append
abbrev aaA:=@List.getElem?_cons_succ
abbrev aaB:=@Go.Proofs.Tryz.underlying268
abbrev aaC:=@List.drop_eq_nil_of_le
abbrev aaD:=@List.getElem?_append_right
abbrev aaE:=@List.append_nil
abbrev aaF:=@Nat.eq_zero_or_pos
abbrev aaG:=@congrArg
abbrev aaH:=@Option.some.inj
abbrev aaI:=@List.mem_of_getElem?
abbrev aaJ:=@Go.Value.slice.injEq
abbrev aaK:=@List.mem_of_mem_take
abbrev aaL:=@List.set_cons_zero
abbrev aaM:=@List.set_cons_succ
abbrev aaN:=@Go.Proofs.Tryz.underlying267
abbrev aaO:=@List.map_take
abbrev aaP:=@Ne.symm
abbrev aaQ:=@List.take_append_drop
abbrev aaR:=@List.map_drop
abbrev aaS:=@List.drop_drop
abbrev aaT:=@Go.run_loadVar_row
abbrev aaU:=@Go.WideAt.bytes_irrefl
abbrev aaV:=@List.length_singleton
abbrev aaW:=@Go.World.block_lt_of_cell?
abbrev aaX:=@List.getD_eq_getElem?_getD
abbrev aaY:=@List.flatMap_cons
abbrev aaZ:=@List.getElem?_append_left
abbrev aa0:=@List.drop_eq_getElem_cons
abbrev aa1:=@List.length_replicate
abbrev aa2:=@Bool.and_eq_true
abbrev aa3:=@Bool.false_eq_true
abbrev aa4:=@Nat.min_eq_right
abbrev aa5:=@Go.BigFrame.wpList_want
abbrev aa6:=@List.drop_left'
abbrev aa7:=@Prod.mk.injEq
abbrev aa8:=@Go.Proofs.Tryz.ntmps225
abbrev aa9:=@List.countP_cons
abbrev abb:=@Go.Proofs.Tryz.func225
abbrev abd:=@List.getElem?_replicate
abbrev abe:=@List.filter_eq_self
abbrev abf:=@List.flatMap_append
abbrev abg:=@List.mem_range
abbrev abh:=@Go.Proofs.Tryz.underlying5
abbrev abj:=@Go.Proofs.Tryz.underlying9
abbrev abk:=@Prod.ext
abbrev abl:=@List.map_nil
abbrev abm:=@List.find?_eq_none
abbrev abn:=@Nat.mul_div_cancel
abbrev abo:=@Go.Proofs.Tryz.ntmps18
abbrev abp:=@List.take_left'
abbrev abq:=@List.length_dropLast
abbrev abr:=@Classical.byContradiction
abbrev abt:=@Go.Proofs.Tryz.func18
abbrev abu:=@Go.Proofs.Tryz.ntmps75
abbrev abv:=@List.not_mem_nil
abbrev abw:=@Go.callsIn_wide
abbrev abx:=@decide_eq_false_iff_not
abbrev aby:=@List.getElem?_drop
abbrev abz:=@Bool.or_eq_true
abbrev abA:=@UInt8.toNat_inj
abbrev abB:=@List.cons.injEq
abbrev abC:=@Go.Proofs.Tryz.func75
abbrev abD:=@List.getLast?_eq_some_getLast
abbrev abE:=@List.count_eq_zero_of_not_mem
abbrev abF:=@Go.Result.andThen_ok
abbrev abG:=@Function.comp_def
abbrev abH:=@Go.run_underlying
abbrev abI:=@Go.wpList_plain
abbrev abJ:=@Go.Sem.run_bind
abbrev abK:=@List.length_filter_le
abbrev abL:=@Go.Proofs.Tryz.ntmps45
abbrev abM:=@Go.Proofs.Tryz.ntmps19
abbrev abN:=@List.mem_cons_of_mem
abbrev abO:=@List.map_toArray
abbrev abP:=@List.Pairwise.filter
abbrev abQ:=@Go.Proofs.Tryz.underlying3
abbrev abR:=@List.cons_append
abbrev abS:=@List.mem_of_mem_drop
abbrev abT:=@Go.RowKit.run_makeMap
abbrev abU:=@Go.Proofs.Tryz.func45
abbrev abV:=@Go.Proofs.Tryz.func19
abbrev abW:=@beq_eq_false_iff_ne
abbrev abX:=@List.take_succ_cons
abbrev abY:=@List.countP_eq_zero
abbrev abZ:=@List.filter_map
abbrev ab0:=@List.mem_of_find?_eq_some
abbrev ab1:=@List.getLastD_eq_getLast?
abbrev ab2:=@Option.eq_none_or_eq_some
abbrev ab3:=@List.range_succ
abbrev ab4:=@List.getElem?_eq_none_iff
abbrev ab5:=@Go.Sem.run_pure
abbrev ab6:=@Nat.add_zero
abbrev ab7:=@Go.Proofs.Tryz.ntmps49
abbrev ab8:=@Nat.le_of_eq
def acd(p:Prop):Prop:=p
theorem ab9{p:Prop}(h:p):acd p:=h
theorem acd.o{p:Prop}(h:acd p):p:=h
theorem ace{n:Nat}:n≤n:=Nat.le_refl n
theorem acf{n:Nat}{w:World}:Below n w w:=Below.refl n w
theorem gW{k:IntKind}{a b:Int}(h:a=b):Ending.returned (.int k a)= .returned (.int k b):=by rw[h]
theorem lW{a b:Bool}(h:a=b):Ending.returned (.bool a)= .returned (.bool b):=by rw[h]
theorem own:ownKnob Tryz.prog.godebug=none:=by kernel_rfl
theorem laidOut:laidOutB Tryz.prog=true:=by kernel_rfl
def Dq(P:Program)(ts:List TypeId):Prop:=∀t∈ts,P.readableRec t=true∧t<P.types.size
theorem wX{H:Type}{enc:TypeId×Value→H}{P:Program}(hl:laidOutB P=true){W W':World}(hb:Below W.heap.size W W'):
  ∀(ts:List TypeId) (vs:List Value) (ds:List (DataW H)) (ps:List MemPlace),Dq P ts→
   DataW.TrodAll enc P W 0 (fun _=>true) true ts vs ds ps→(∀x∈ps,x.block<W.heap.size)→
   DataW.TrodAll enc P W' 0 (fun b=>decide (b<W.heap.size)) true ts vs ds ps
 |[],[],[],_,_,h,_=>h
 |t::ts,v::vs,d::ds,ps,hr,h,hlt=>by
  obtain⟨p,q,h1,h2,rfl⟩:=h;have h3:=hr t (by simp)
  exact⟨p,q,Below.trod hl h3.1 h3.2 h1 hb (fun x hx=>hlt x (List.mem_append_left _ hx)),
   wX hl hb ts vs ds q (fun t' h'=>hr t' (abN _ h')) h2 (fun x hx=>hlt x (List.mem_append_right _ hx)),rfl⟩
 |[],_::_,_,_,_,h,_=>h.elim
 |[],[],_::_,_,_,h,_=>h.elim
 |_::_,[],_,_,_,h,_=>h.elim
 |_::_,_::_,[],_,_,h,_=>h.elim
theorem UA{H:Type}{enc:TypeId×Value→H}{P:Program}(hl:laidOutB P=true){f:Func}{s:ChangeSpec}{apart fresh handsOn:Bool}{W W':World}{args:Array Value}{ds gs:List (DataW H)}{before:List MemPlace}
  (hr:Dq P f.params.toList)(hv:s.vars=[])(hW:DataW.Whole enc P f.params.toList s.vars apart W args.toList ds gs before)(hb:Below W.heap.size W W')
  {T:TypeId}(hT:f.resultTypes= #[T])(hu:P.underlying T=some .bool)
  (hs:s.fn H (ds++gs)={results:=[.lit (.bool true)],args:=ds}):
  s.post enc P f apart fresh handsOn false W args (.bool true) W':=by
 have hlt:=hW.lt;have hW':=hW;obtain⟨p,q,hA,hV,rfl,hfz,hnd⟩:=hW;have hq:q=[]:=by
  rw[hv]at hV;exact(trodVars_none hV).2
 subst hq;refine⟨ds,gs,_,[],p,[],hW',?_,?_,?_,?_,fun h=>by cases h⟩
 ·rw[hs,hT];exact trodAll_mk1 (shut_bool hu _)
 ·rw[hs];exact wX hl hb _ _ _ _ hr hA (fun x hx=>hlt x (List.mem_append_left _ hx))
 ·rw[hs,hv];rfl
 ·exact hb.frame _
def Fine(W:World)(e:Ending)(W':World):Prop:=e= .returned (.bool true)∧Below W.heap.size W W'
theorem Qf{B:Nat}{W w1:World}(hb:Below B W w1):(∀b o,b<B→w1.cell? ⟨b,o,none⟩=W.cell? ⟨b,o,none⟩)∧(∀b o,b<B→w1.frozen? ⟨b,o,none⟩=W.frozen? ⟨b,o,none⟩):=
 ⟨fun b o h=>hb.cell (p:=⟨b,o,none⟩) h,fun b o h=>hb.frozen (p:=⟨b,o,none⟩) h⟩
structure Keeps(fp:Nat→Prop)(w w':World):Prop where
 os:w'.os=w.os
 tape:w'.tape=w.tape
 output:w'.output=w.output
 size:w.heap.size≤w'.heap.size
 block:∀b,b<w.heap.size→¬fp b→w'.heap[b]? =w.heap[b]?
theorem Keeps.refl(fp:Nat→Prop)(w:World):Keeps fp w w:=⟨rfl,rfl,rfl,Nat.le_refl _,fun _ _ _=>rfl⟩
theorem Keeps.trans{fp fp':Nat→Prop}{a b c:World}(h:Keeps fp a b)(k:Keeps fp' b c)(hs:∀x,x<a.heap.size→fp' x→fp x):Keeps fp a c:=
 ⟨k.os.trans h.os,k.tape.trans h.tape,k.output.trans h.output,Nat.le_trans h.size k.size,fun x hx hn=>(k.block x (Nat.lt_of_lt_of_le hx h.size) (fun hf=>hn (hs x hx hf))).trans (h.block x hx hn)⟩
theorem Keeps.mono{fp fp':Nat→Prop}{a b:World}(h:Keeps fp a b)(hs:∀x,x<a.heap.size→fp x→fp' x):Keeps fp' a b:=
 ⟨h.os,h.tape,h.output,h.size,fun x hx hn=>h.block x hx (fun hf=>hn (hs x hx hf))⟩
theorem Keeps.below{B:Nat}{w w':World}(h:Below B w w'):Keeps (fun b=>B≤b) w w':=
 ⟨h.os,h.tape,h.output,h.size,fun b _ hn=>h.block b (by omega)⟩
theorem Keeps.bQ{fp:Nat→Prop}{B:Nat}{w w':World}(h:Keeps fp w w')(hB:B≤w.heap.size)(hf:∀x,x<B→¬fp x):Below B w w':=
 ⟨h.os,h.tape,h.output,h.size,fun b hb=>h.block b (by omega) (hf b hb)⟩
structure ah(S:Nat→Prop)(w:World)(a:Option Addr)(len:Nat)(vs:List Value):Prop where
 length:vs.length=len
 small:len≤maxLen
 at_:0<len→∃b off,a=some ⟨b,off,none⟩∧S b∧b<w.heap.size∧∀i,i<len→w.cell? ⟨b,off+i,none⟩=vs[i]?
theorem ah.kept{S:Nat→Prop}{w w':World}{a:Option Addr}{len:Nat}{vs:List Value}(h:ah S w a len vs)(hs:w.heap.size≤w'.heap.size)(hk:∀b,S b→b<w.heap.size→w'.heap[b]? =w.heap[b]?):ah S w' a len vs:=by
 refine⟨h.length,h.small,fun h0=> ?_⟩;obtain⟨b,off,e,hS,hb,hc⟩:=h.at_ h0;exact⟨b,off,e,hS,by omega,fun i hi=>(World.cell?_of_block (w:=w) (w':=w') (a:=⟨b,off+i,none⟩) (hk b hS hb)).trans (hc i hi)⟩
theorem ah.below{S:Nat→Prop}{B:Nat}{w w':World}{a:Option Addr}{len:Nat}{vs:List Value}(h:ah S w a len vs)(hb:Below B w w')(hB:w.heap.size≤B):ah S w' a len vs:=
 h.kept hb.size (fun b _ hl=>hb.block b (by omega))
theorem ah.mono{S S':Nat→Prop}{w:World}{a:Option Addr}{len:Nat}{vs:List Value}(h:ah S w a len vs)(hs:∀b,S b→S' b):ah S' w a len vs:=
 ⟨h.length,h.small,fun h0=>let⟨b,off,e,hS,r⟩:=h.at_ h0;⟨b,off,e,hs b hS,r⟩⟩
theorem ah.move{S S':Nat→Prop}{w w':World}{a:Option Addr}{len:Nat}{vs:List Value}(h:ah S w a len vs)(hs:w.heap.size≤w'.heap.size)(hk:∀b,S b→b<w.heap.size→S' b∧w'.heap[b]? =w.heap[b]?):ah S' w' a len vs:=by
 refine⟨h.length,h.small,fun h0=> ?_⟩;obtain⟨b,off,e,hS,hb,hc⟩:=h.at_ h0;exact⟨b,off,e,(hk b hS hb).1,by omega,fun i hi=>(World.cell?_of_block (w:=w) (w':=w') (a:=⟨b,off+i,none⟩) (hk b hS hb).2).trans (hc i hi)⟩
theorem ah.nil(S:Nat→Prop)(w:World)(a:Option Addr):ah S w a 0 []:=⟨rfl,by simp,fun h=>by omega⟩
structure bH(S:Nat→Prop)(w:World)(a:Option Addr)(len:Nat)(ss:List ByteArray):Prop where
 row:ah S w a len (ss.map .string)
 short:∀s∈ss,s.size≤maxLen
theorem bH.length{S:Nat→Prop}{w:World}{a:Option Addr}{len:Nat}{ss:List ByteArray}(h:bH S w a len ss):ss.length=len:=by have:=h.row.length;simpa using this
theorem bH.below{S:Nat→Prop}{B:Nat}{w w':World}{a:Option Addr}{len:Nat}{ss:List ByteArray}(h:bH S w a len ss)(hb:Below B w w')(hB:w.heap.size≤B):bH S w' a len ss:=⟨h.row.below hb hB,h.short⟩
theorem bH.kept{S:Nat→Prop}{w w':World}{a:Option Addr}{len:Nat}{ss:List ByteArray}(h:bH S w a len ss)(hs:w.heap.size≤w'.heap.size)(hk:∀b,S b→b<w.heap.size→w'.heap[b]? =w.heap[b]?):bH S w' a len ss:=⟨h.row.kept hs hk,h.short⟩
theorem bH.mono{S S':Nat→Prop}{w:World}{a:Option Addr}{len:Nat}{ss:List ByteArray}(h:bH S w a len ss)(hs:∀b,S b→S' b):bH S' w a len ss:=⟨h.row.mono hs,h.short⟩
theorem bH.cell{S:Nat→Prop}{w:World}{a:Option Addr}{len:Nat}{ss:List ByteArray}(h:bH S w a len ss)(k:Nat)(hk:k<len):
  ∃b off s,a=some ⟨b,off,none⟩∧S b∧b<w.heap.size∧ss[k]? =some s∧s.size≤maxLen∧w.cell? ⟨b,off+k,none⟩=some (.string s):=by
 obtain⟨b,off,e,hS,hb,hc⟩:=h.row.at_ (by omega);have hl:=h.length;have hs:ss[k]? =some (ss[k]'(by omega)):=List.getElem?_eq_getElem (by omega);refine⟨b,off,ss[k]'(by omega),e,hS,hb,hs,h.short _ (List.getElem_mem _),?_⟩;rw[hc k hk,List.getElem?_map,hs];rfl
def M7{α:Type}(p:α→Bool)(l:List α):Int:=match l.findIdx? p with|some i=>(i:Int)|none=> -1
theorem Gz{α:Type}{p:α→Bool}{l:List α}(h:l.any p=false):M7 p l= -1:=by
 have:l.findIdx? p=none:=by
  rw[List.findIdx?_eq_none_iff];simpa using h
 simp[M7,this]
theorem Rn{α:Type}{p:α→Bool}{l:List α}{k:Nat}{x:α}(h:(l.take k).any p=false)(hx:l[k]? =some x)(hp:p x=true):M7 p l=k:=by
 have:l.findIdx? p=some k:=by
  rw[List.findIdx?_eq_some_iff_getElem];obtain⟨hk,e⟩:=aaj.1 hx;refine⟨hk,by rw[e];exact hp,fun j hj=> ?_⟩;have h1:l[j]∈l.take k:=by
   rw[List.mem_take_iff_getElem];exact⟨j,by omega,rfl⟩
  have:=List.any_eq_false.1 h _ h1;simpa using this
 simp[M7,this]
theorem any_take_succ{α:Type}{p:α→Bool}{l:List α}{k:Nat}{x:α}(h:(l.take k).any p=false)(hx:l[k]? =some x)(hp:p x=false):(l.take (k+1)).any p=false:=by
 obtain⟨hk,e⟩:=aaj.1 hx;rw[aai hk,List.any_append,h,e];simp[hp]
theorem UC{α:Type}(p:α→Bool)(l:List α):decide (0≤M7 p l)=l.any p:=by
 cases h:l.any p
 ·rw[Gz h];rfl
 ·unfold M7;cases h2:l.findIdx? p with
  |none=>
   rw[List.findIdx?_eq_none_iff]at h2;rw[List.any_eq_true]at h;obtain⟨x,hx,hp⟩:=h;have:=h2 x hx;simp[hp]at this
  |some i=>simp
end Go.Proofs.YtmflaonodghbcaaGreatDoor
