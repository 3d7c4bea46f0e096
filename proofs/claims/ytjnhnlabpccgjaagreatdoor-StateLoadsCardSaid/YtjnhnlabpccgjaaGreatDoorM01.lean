/- Lemmas -/
import Derived.Test.YtjnhnlabpccgjaaGreatDoorRows
import Derived.WalkKit
import Derived.ProofKit
import Derived.OpenShut
import Derived.Lib.Hide
import Derived.SizedLaws
set_option maxRecDepth 100000
set_option maxHeartbeats 64000000
set_option linter.all false
namespace Go.Proofs.YtjnhnlabpccgjaaGreatDoor
open Go.ChangeShapes Go.WideShapes Go.ChangeAt Go.RowKit
abbrev iL:=@Array.getElem?_eq_some_iff
abbrev Pd:=@Option.some.injEq
abbrev Pe:=@Go.World.size_alloc
abbrev TK:=@List.append_assoc
abbrev aac:=@List.getElem?_eq_some_iff
abbrev aad:=@List.eq_nil_of_length_eq_zero
abbrev aae:=@List.take_succ_eq_append_getElem
abbrev aaf:=@Option.isSome_iff_exists
abbrev aag:=@Go.IntWalk.i64_in
abbrev aah:=@decide_eq_true_eq
abbrev aai:=@List.getElem?_cons_zero
abbrev aaj:=@Go.World.block_lt_of_cell?
abbrev aak:=@Go.Value.slice.injEq
abbrev aal:=@List.pairwise_cons
abbrev aam:=@Go.info_parts
abbrev aan:=@List.mem_cons
abbrev aao:=@Option.map_some
abbrev aap:=@List.mem_append
abbrev aaq:=@List.getElem?_toArray
abbrev aar:=@List.mem_filter
abbrev aas:=@List.getElem?_cons_succ
abbrev aat:=@List.mem_of_getElem?
abbrev aau:=@Go.World.cell?_of_block
abbrev aav:=@List.setIfInBounds_toArray
abbrev aaw:=@List.getElem?_append_right
abbrev aax:=@Nat.le_trans
abbrev aay:=@decide_eq_false
abbrev aaz:=@List.map_congr_left
abbrev aaA:=@List.append_nil
abbrev aaB:=@Go.bodyPost_ret
abbrev aaC:=@List.drop_of_length_le
abbrev aaD:=@List.getElem?_take
abbrev aaE:=@Prod.ext
abbrev aaF:=@congrArg
abbrev aaG:=@List.flatMap_append
abbrev aaH:=@Option.some.inj
abbrev aaI:=@and_true
abbrev aaJ:=@List.set_cons_zero
abbrev aaK:=@Nat.mul_one
abbrev aaL:=@List.getD_eq_getElem?_getD
abbrev aaM:=@List.count_eq_zero_of_not_mem
abbrev aaN:=@List.getElem?_append_left
abbrev aaO:=@List.drop_eq_getElem_cons
abbrev aaP:=@List.set_cons_succ
abbrev aaQ:=@Go.Addr.mk.injEq
abbrev aaR:=@List.take_append_drop
abbrev aaS:=@Int.le_refl
abbrev aaT:=@Ne.symm
abbrev aaU:=@List.cons.injEq
abbrev aaV:=@List.length_set
abbrev aaW:=@Bool.and_eq_true
abbrev aaX:=@Go.Proofs.Tryz.underlying3
abbrev aaY:=@List.getElem?_set_self
abbrev aaZ:=@Go.WideAt.bytes_irrefl
abbrev aa0:=@List.filter_eq_self
abbrev aa1:=@beq_eq_false_iff_ne
abbrev aa2:=@Int.toNat_natCast
abbrev aa3:=@List.map_take
abbrev aa4:=@List.length_filter_le
abbrev aa5:=@Go.Proofs.Tryz.ntmps39
abbrev aa6:=@List.findIdx?_eq_some_iff_getElem
abbrev aa7:=@List.filter_append
abbrev aa8:=@decide_eq_false_iff_not
abbrev aa9:=@Go.Proofs.Tryz.func39
abbrev abb:=@List.findIdx?_eq_none_iff
abbrev abd:=@Go.Proofs.Tryz.underlying9
abbrev abe:=@Bool.false_eq_true
abbrev abf:=@List.countP_cons
abbrev abg:=@List.map_nil
abbrev abh:=@List.not_mem_nil
abbrev abj:=@Go.Proofs.Tryz.ntmps48
abbrev abk:=@List.pairwise_map
abbrev abl:=@Go.Result.andThen_ok
abbrev abm:=@Go.ByteArray.toList_eq
abbrev abn:=@List.take_succ_cons
abbrev abo:=@Go.Proofs.Tryz.func48
abbrev abp:=@Go.Proofs.Tryz.ntmps167
abbrev abq:=@Go.Proofs.Tryz.underlying5
abbrev abr:=@Go.RowKit.Below.heap_alloc
abbrev abt:=@List.map_toArray
abbrev abu:=@Nat.min_eq_right
abbrev abv:=@Nat.eq_zero_or_pos
abbrev abw:=@Classical.byContradiction
abbrev abx:=@List.mem_append_left
abbrev aby:=@Go.BigFrame.wpList_want
abbrev abz:=@Go.Sem.run_bind
abbrev abA:=@Go.Proofs.Tryz.func167
abbrev abB:=@Prod.mk.injEq
abbrev abC:=@if_true
abbrev abD:=@List.find?_eq_none
abbrev abE:=@List.getElem?_drop
abbrev abF:=@Go.Sem.run_pure
abbrev abG:=@Nat.zero_mul
abbrev abH:=@List.filter_map
abbrev abI:=@UInt8.toNat_inj
abbrev abJ:=@List.Pairwise.imp
abbrev abK:=@List.take_add_one
abbrev abL:=@List.Pairwise.filter
abbrev abM:=@List.getLastD_eq_getLast?
abbrev abN:=@List.length_dropLast
abbrev abO:=@List.getElem?_eq_none_iff
abbrev abP:=@Go.run_underlying
abbrev abQ:=@List.getElem_mem
abbrev abR:=@true_and
abbrev abS:=@Go.wpList_plain
abbrev abT:=@Go.Proofs.Tryz.ntmps14
abbrev abU:=@List.countP_eq_zero
abbrev abV:=@Go.Proofs.Tryz.ntmps145
abbrev abW:=@List.map_drop
abbrev abX:=@Bool.or_eq_true
abbrev abY:=@List.filter_eq_nil_iff
abbrev abZ:=@Go.Proofs.Tryz.func14
abbrev ab0:=@List.getLast?_eq_some_getLast
abbrev ab1:=@List.mem_append_right
abbrev ab2:=@List.mem_range
abbrev ab3:=@Go.Proofs.Tryz.func145
abbrev ab4:=@Go.Proofs.Tryz.ntmps46
abbrev ab5:=@Go.DataW.trod_int
abbrev ab6:=@List.mem_cons_of_mem
abbrev ab7:=@List.cons_append
abbrev ab8:=@Nat.mul_le_mul_right
abbrev ab9:=@Go.Proofs.Tryz.ntmps106
abbrev acd:=@Go.Proofs.Tryz.ntmps100
abbrev ace:=@Go.Proofs.Tryz.func46
abbrev acf:=@Nat.le_succ
abbrev acg:=@List.takeWhile_cons
abbrev ach:=@List.dropWhile_cons
abbrev aci:=@List.mem_of_find?_eq_some
abbrev acj:=@Go.Proofs.Tryz.ntmps72
abbrev acn:=@Go.Proofs.Tryz.func106
abbrev aco:=@Go.Proofs.Tryz.func100
abbrev acp:=@List.count_flatMap
def acs(p:Prop):Prop:=p
theorem acr{p:Prop}(h:p):acs p:=h
theorem acs.o{p:Prop}(h:acs p):p:=h
theorem acu{n:Nat}:n≤n:=Nat.le_refl n
theorem acv{n:Nat}{w:World}:Below n w w:=Below.refl n w
theorem fI{k:IntKind}{a b:Int}(h:a=b):Ending.returned (.int k a)= .returned (.int k b):=by rw[h]
theorem kV{a b:Bool}(h:a=b):Ending.returned (.bool a)= .returned (.bool b):=by rw[h]
theorem own:ownKnob Tryz.prog.godebug=none:=by kernel_rfl
theorem laidOut:laidOutB Tryz.prog=true:=by kernel_rfl
def CO(P:Program)(ts:List TypeId):Prop:=∀t∈ts,P.readableRec t=true∧t<P.types.size
theorem wR{H:Type}{enc:TypeId×Value→H}{P:Program}(hl:laidOutB P=true){W W':World}(hb:Below W.heap.size W W'):
  ∀(ts:List TypeId) (vs:List Value) (ds:List (DataW H)) (ps:List MemPlace),CO P ts→
   DataW.TrodAll enc P W 0 (fun _=>true) true ts vs ds ps→(∀x∈ps,x.block<W.heap.size)→
   DataW.TrodAll enc P W' 0 (fun b=>decide (b<W.heap.size)) true ts vs ds ps
 |[],[],[],_,_,h,_=>h
 |t::ts,v::vs,d::ds,ps,hr,h,hlt=>by
  obtain⟨p,q,h1,h2,rfl⟩:=h;have h3:=hr t (by simp)
  exact⟨p,q,Below.trod hl h3.1 h3.2 h1 hb (fun x hx=>hlt x (abx _ hx)),
   wR hl hb ts vs ds q (fun t' h'=>hr t' (ab6 _ h')) h2 (fun x hx=>hlt x (ab1 _ hx)),rfl⟩
 |[],_::_,_,_,_,h,_=>h.elim
 |[],[],_::_,_,_,h,_=>h.elim
 |_::_,[],_,_,_,h,_=>h.elim
 |_::_,_::_,[],_,_,h,_=>h.elim
theorem SV{H:Type}{enc:TypeId×Value→H}{P:Program}(hl:laidOutB P=true){f:Func}{s:ChangeSpec}{apart fresh handsOn:Bool}{W W':World}{args:Array Value}{ds gs:List (DataW H)}{before:List MemPlace}
  (hr:CO P f.params.toList)(hv:s.vars=[])(hW:DataW.Whole enc P f.params.toList s.vars apart W args.toList ds gs before)(hb:Below W.heap.size W W')
  {T:TypeId}(hT:f.resultTypes= #[T])(hu:P.underlying T=some .bool)
  (hs:s.fn H (ds++gs)={results:=[.lit (.bool true)],args:=ds}):
  s.post enc P f apart fresh handsOn false W args (.bool true) W':=by
 have hlt:=hW.lt;have hW':=hW;obtain⟨p,q,hA,hV,rfl,hfz,hnd⟩:=hW;have hq:q=[]:=by
  rw[hv]at hV;exact(trodVars_none hV).2
 subst hq;refine⟨ds,gs,_,[],p,[],hW',?_,?_,?_,?_,fun h=>by cases h⟩
 ·rw[hs,hT];exact trodAll_mk1 (shut_bool hu _)
 ·rw[hs];exact wR hl hb _ _ _ _ hr hA (fun x hx=>hlt x (abx _ hx))
 ·rw[hs,hv];rfl
 ·exact hb.frame _
def Fine(W:World)(e:Ending)(W':World):Prop:=e= .returned (.bool true)∧Below W.heap.size W W'
structure Keeps(fp:Nat→Prop)(w w':World):Prop where
 os:w'.os=w.os
 tape:w'.tape=w.tape
 output:w'.output=w.output
 size:w.heap.size≤w'.heap.size
 block:∀b,b<w.heap.size→¬fp b→w'.heap[b]? =w.heap[b]?
theorem Keeps.refl(fp:Nat→Prop)(w:World):Keeps fp w w:=⟨rfl,rfl,rfl,Nat.le_refl _,fun _ _ _=>rfl⟩
theorem Keeps.trans{fp fp':Nat→Prop}{a b c:World}(h:Keeps fp a b)(k:Keeps fp' b c)(hs:∀x,x<a.heap.size→fp' x→fp x):Keeps fp a c:=
 ⟨k.os.trans h.os,k.tape.trans h.tape,k.output.trans h.output,aax h.size k.size,fun x hx hn=>(k.block x (Nat.lt_of_lt_of_le hx h.size) (fun hf=>hn (hs x hx hf))).trans (h.block x hx hn)⟩
theorem Keeps.mono{fp fp':Nat→Prop}{a b:World}(h:Keeps fp a b)(hs:∀x,x<a.heap.size→fp x→fp' x):Keeps fp' a b:=
 ⟨h.os,h.tape,h.output,h.size,fun x hx hn=>h.block x hx (fun hf=>hn (hs x hx hf))⟩
theorem Keeps.below{B:Nat}{w w':World}(h:Below B w w'):Keeps (fun b=>B≤b) w w':=
 ⟨h.os,h.tape,h.output,h.size,fun b _ hn=>h.block b (by omega)⟩
theorem Keeps.gP{fp:Nat→Prop}{B:Nat}{w w':World}(h:Keeps fp w w')(hB:B≤w.heap.size)(hf:∀x,x<B→¬fp x):Below B w w':=
 ⟨h.os,h.tape,h.output,h.size,fun b hb=>h.block b (by omega) (hf b hb)⟩
structure ah(S:Nat→Prop)(w:World)(a:Option Addr)(len:Nat)(vs:List Value):Prop where
 length:vs.length=len
 small:len≤maxLen
 at_:0<len→∃b off,a=some ⟨b,off,none⟩∧S b∧b<w.heap.size∧∀i,i<len→w.cell? ⟨b,off+i,none⟩=vs[i]?
theorem ah.kept{S:Nat→Prop}{w w':World}{a:Option Addr}{len:Nat}{vs:List Value}(h:ah S w a len vs)(hs:w.heap.size≤w'.heap.size)(hk:∀b,S b→b<w.heap.size→w'.heap[b]? =w.heap[b]?):ah S w' a len vs:=by
 refine⟨h.length,h.small,fun h0=> ?_⟩;obtain⟨b,off,e,hS,hb,hc⟩:=h.at_ h0;exact⟨b,off,e,hS,by omega,fun i hi=>(aau (w:=w) (w':=w') (a:=⟨b,off+i,none⟩) (hk b hS hb)).trans (hc i hi)⟩
theorem ah.below{S:Nat→Prop}{B:Nat}{w w':World}{a:Option Addr}{len:Nat}{vs:List Value}(h:ah S w a len vs)(hb:Below B w w')(hB:w.heap.size≤B):ah S w' a len vs:=
 h.kept hb.size (fun b _ hl=>hb.block b (by omega))
theorem ah.mono{S S':Nat→Prop}{w:World}{a:Option Addr}{len:Nat}{vs:List Value}(h:ah S w a len vs)(hs:∀b,S b→S' b):ah S' w a len vs:=
 ⟨h.length,h.small,fun h0=>let⟨b,off,e,hS,r⟩:=h.at_ h0;⟨b,off,e,hs b hS,r⟩⟩
theorem ah.move{S S':Nat→Prop}{w w':World}{a:Option Addr}{len:Nat}{vs:List Value}(h:ah S w a len vs)(hs:w.heap.size≤w'.heap.size)(hk:∀b,S b→b<w.heap.size→S' b∧w'.heap[b]? =w.heap[b]?):ah S' w' a len vs:=by
 refine⟨h.length,h.small,fun h0=> ?_⟩;obtain⟨b,off,e,hS,hb,hc⟩:=h.at_ h0;exact⟨b,off,e,(hk b hS hb).1,by omega,fun i hi=>(aau (w:=w) (w':=w') (a:=⟨b,off+i,none⟩) (hk b hS hb).2).trans (hc i hi)⟩
theorem ah.nil(S:Nat→Prop)(w:World)(a:Option Addr):ah S w a 0 []:=⟨rfl,by simp,fun h=>by omega⟩
structure aT(S:Nat→Prop)(w:World)(a:Option Addr)(len:Nat)(ss:List ByteArray):Prop where
 row:ah S w a len (ss.map .string)
 short:∀s∈ss,s.size≤maxLen
theorem aT.length{S:Nat→Prop}{w:World}{a:Option Addr}{len:Nat}{ss:List ByteArray}(h:aT S w a len ss):ss.length=len:=by have:=h.row.length;simpa using this
theorem aT.below{S:Nat→Prop}{B:Nat}{w w':World}{a:Option Addr}{len:Nat}{ss:List ByteArray}(h:aT S w a len ss)(hb:Below B w w')(hB:w.heap.size≤B):aT S w' a len ss:=⟨h.row.below hb hB,h.short⟩
theorem aT.kept{S:Nat→Prop}{w w':World}{a:Option Addr}{len:Nat}{ss:List ByteArray}(h:aT S w a len ss)(hs:w.heap.size≤w'.heap.size)(hk:∀b,S b→b<w.heap.size→w'.heap[b]? =w.heap[b]?):aT S w' a len ss:=⟨h.row.kept hs hk,h.short⟩
theorem aT.mono{S S':Nat→Prop}{w:World}{a:Option Addr}{len:Nat}{ss:List ByteArray}(h:aT S w a len ss)(hs:∀b,S b→S' b):aT S' w a len ss:=⟨h.row.mono hs,h.short⟩
theorem aT.cell{S:Nat→Prop}{w:World}{a:Option Addr}{len:Nat}{ss:List ByteArray}(h:aT S w a len ss)(k:Nat)(hk:k<len):
  ∃b off s,a=some ⟨b,off,none⟩∧S b∧b<w.heap.size∧ss[k]? =some s∧s.size≤maxLen∧w.cell? ⟨b,off+k,none⟩=some (.string s):=by
 obtain⟨b,off,e,hS,hb,hc⟩:=h.row.at_ (by omega);have hl:=h.length;have hs:ss[k]? =some (ss[k]'(by omega)):=List.getElem?_eq_getElem (by omega);refine⟨b,off,ss[k]'(by omega),e,hS,hb,hs,h.short _ (abQ _),?_⟩;rw[hc k hk,List.getElem?_map,hs];rfl
def rG{α:Type}(p:α→Bool)(l:List α):Int:=match l.findIdx? p with|some i=>(i:Int)|none=> -1
theorem pJ{α:Type}{p:α→Bool}{l:List α}(h:l.any p=false):rG p l= -1:=by
 have:l.findIdx? p=none:=by
  rw[abb];simpa using h
 simp[rG,this]
theorem zR{α:Type}{p:α→Bool}{l:List α}{k:Nat}{x:α}(h:(l.take k).any p=false)(hx:l[k]? =some x)(hp:p x=true):rG p l=k:=by
 have:l.findIdx? p=some k:=by
  rw[aa6];obtain⟨hk,e⟩:=aac.1 hx;refine⟨hk,by rw[e];exact hp,fun j hj=> ?_⟩;have h1:l[j]∈l.take k:=by
   rw[List.mem_take_iff_getElem];exact⟨j,by omega,rfl⟩
  have:=List.any_eq_false.1 h _ h1;simpa using this
 simp[rG,this]
theorem any_take_succ{α:Type}{p:α→Bool}{l:List α}{k:Nat}{x:α}(h:(l.take k).any p=false)(hx:l[k]? =some x)(hp:p x=false):(l.take (k+1)).any p=false:=by
 obtain⟨hk,e⟩:=aac.1 hx;rw[aae hk,List.any_append,h,e];simp[hp]
theorem SX{α:Type}(p:α→Bool)(l:List α):decide (0≤rG p l)=l.any p:=by
 cases h:l.any p
 ·rw[pJ h];rfl
 ·unfold rG;cases h2:l.findIdx? p with
  |none=>
   rw[abb]at h2;rw[List.any_eq_true]at h;obtain⟨x,hx,hp⟩:=h;have:=h2 x hx;simp[hp]at this
  |some i=>simp
end Go.Proofs.YtjnhnlabpccgjaaGreatDoor
