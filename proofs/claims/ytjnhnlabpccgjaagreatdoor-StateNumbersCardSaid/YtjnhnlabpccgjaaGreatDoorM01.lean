/- Lemmas -/
import Derived.Test.YtjnhnlabpccgjaaGreatDoorRows
import Derived.WalkKit
import Derived.ProofKit
import Derived.OpenShut
import Derived.Lib.Hide
import Derived.SizedLaws
set_option maxRecDepth 100000
set_option maxHeartbeats 64000000
set_option linter.all false
namespace Go.Proofs.YtjnhnlabpccgjaaGreatDoor
open Go.ChangeShapes Go.WideShapes Go.ChangeAt Go.RowKit
abbrev iA:=@Array.getElem?_eq_some_iff
abbrev Pd:=@Nat.lt_of_lt_of_le
abbrev Pe:=@Go.World.cell?_of_block
abbrev aac:=@Option.some.injEq
abbrev aad:=@Go.World.size_alloc
abbrev aae:=@List.getElem?_eq_some_iff
abbrev aaf:=@Option.isSome_iff_exists
abbrev aag:=@Go.World.block_lt_of_cell?
abbrev aah:=@List.take_succ_eq_append_getElem
abbrev aai:=@List.eq_nil_of_length_eq_zero
abbrev aaj:=@Decidable.byContradiction
abbrev aak:=@Go.IntWalk.i64_in
abbrev aal:=@decide_eq_true_eq
abbrev aam:=@Go.Proofs.Tryz.underlying136
abbrev aan:=@List.length_take
abbrev aao:=@List.getElem?_cons_zero
abbrev aap:=@Go.info_parts
abbrev aaq:=@List.getElem?_toArray
abbrev aar:=@Go.Value.slice.injEq
abbrev aas:=@List.setIfInBounds_toArray
abbrev aat:=@Option.map_some
abbrev aau:=@List.append_assoc
abbrev aav:=@List.getElem?_cons_succ
abbrev aaw:=@List.pairwise_cons
abbrev aax:=@List.mem_of_getElem?
abbrev aay:=@List.mem_cons
abbrev aaz:=@List.getElem?_append_right
abbrev aaA:=@List.map_cons
abbrev aaB:=@List.getD_eq_getElem?_getD
abbrev aaC:=@List.getElem?_take
abbrev aaD:=@List.drop_of_length_le
abbrev aaE:=@List.append_nil
abbrev aaF:=@decide_eq_false_iff_not
abbrev aaG:=@List.getElem?_append_left
abbrev aaH:=@List.mem_filter
abbrev aaI:=@and_true
abbrev aaJ:=@List.map_congr_left
abbrev aaK:=@Option.some.inj
abbrev aaL:=@List.mem_append
abbrev aaM:=@List.length_drop
abbrev aaN:=@List.set_cons_zero
abbrev aaO:=@Prod.ext
abbrev aaP:=@Go.Proofs.Tryz.ntmps25
abbrev aaQ:=@Bool.and_eq_true
abbrev aaR:=@List.filter_cons
abbrev aaS:=@Go.Addr.mk.injEq
abbrev aaT:=@congrArg
abbrev aaU:=@List.set_cons_succ
abbrev aaV:=@Go.Proofs.Tryz.func25
abbrev aaW:=@List.not_mem_nil
abbrev aaX:=@List.flatMap_append
abbrev aaY:=@List.length_filter_le
abbrev aaZ:=@List.filter_append
abbrev aa0:=@List.length_set
abbrev aa1:=@List.getElem?_set_self
abbrev aa2:=@List.drop_eq_getElem_cons
abbrev aa3:=@Go.bodyPost_ret
abbrev aa4:=@Go.Proofs.Tryz.ntmps39
abbrev aa5:=@List.findIdx?_eq_some_iff_getElem
abbrev aa6:=@List.cons.injEq
abbrev aa7:=@Int.le_refl
abbrev aa8:=@Go.Proofs.Tryz.underlying3
abbrev aa9:=@List.map_take
abbrev abb:=@List.map_nil
abbrev abd:=@Go.Proofs.Tryz.func39
abbrev abe:=@List.filter_eq_self
abbrev abf:=@List.findIdx?_eq_none_iff
abbrev abg:=@List.take_append_drop
abbrev abh:=@Nat.eq_zero_or_pos
abbrev abj:=@Go.Proofs.Tryz.underlying9
abbrev abk:=@Go.Proofs.Tryz.ntmps48
abbrev abl:=@Go.Result.andThen_ok
abbrev abm:=@Go.ByteArray.toList_eq
abbrev abn:=@beq_eq_false_iff_ne
abbrev abo:=@List.take_succ_cons
abbrev abp:=@List.drop_eq_nil_of_le
abbrev abq:=@Go.Proofs.Tryz.func48
abbrev abr:=@Go.Proofs.Tryz.underlying5
abbrev abt:=@Go.RowKit.Below.heap_alloc
abbrev abu:=@List.map_toArray
abbrev abv:=@Nat.min_eq_right
abbrev abw:=@Ne.symm
abbrev abx:=@List.getElem?_drop
abbrev aby:=@Go.RowKit.Below.alloc
abbrev abz:=@List.mem_append_left
abbrev abA:=@Go.Sem.run_bind
abbrev abB:=@List.map_drop
abbrev abC:=@List.find?_eq_none
abbrev abD:=@Go.Sem.run_pure
abbrev abE:=@Nat.zero_mul
abbrev abF:=@UInt8.toNat_inj
abbrev abG:=@true_and
abbrev abH:=@Go.Proofs.Tryz.ntmps146
abbrev abI:=@List.Pairwise.imp
abbrev abJ:=@List.pairwise_map
abbrev abK:=@Int.toNat_natCast
abbrev abL:=@List.take_add_one
abbrev abM:=@Go.BigFrame.wpList_want
abbrev abN:=@List.getLastD_eq_getLast?
abbrev abO:=@Go.run_underlying
abbrev abP:=@List.getElem_mem
abbrev abQ:=@List.countP_cons
abbrev abR:=@Go.wpList_plain
abbrev abS:=@Go.Proofs.Tryz.func146
abbrev abT:=@or_false
abbrev abU:=@List.mem_flatMap
abbrev abV:=@Go.Proofs.Tryz.ntmps14
abbrev abW:=@List.countP_eq_zero
abbrev abX:=@Go.Proofs.Tryz.ntmps145
abbrev abY:=@List.filter_map
abbrev abZ:=@Bool.or_eq_true
abbrev ab0:=@Bool.true_eq_false
abbrev ab1:=@Go.Proofs.Tryz.func14
abbrev ab2:=@Nat.le_succ
abbrev ab3:=@List.getLast?_eq_some_getLast
abbrev ab4:=@List.mem_append_right
abbrev ab5:=@Go.Proofs.Tryz.ntmps77
abbrev ab6:=@List.mem_range
abbrev ab7:=@Go.Proofs.Tryz.func145
abbrev ab8:=@Go.Proofs.Tryz.ntmps46
abbrev ab9:=@Go.DataW.trod_int
abbrev acd:=@List.mem_cons_of_mem
abbrev ace:=@List.length_dropLast
abbrev acf:=@Nat.mul_le_mul_right
abbrev acg:=@Go.Proofs.Tryz.ntmps106
abbrev ach:=@Go.Proofs.Tryz.ntmps100
abbrev aci:=@Go.Proofs.Tryz.func77
abbrev acj:=@Go.Proofs.Tryz.func46
abbrev acn:=@List.flatten_append
abbrev aco:=@List.takeWhile_cons
abbrev acp:=@List.dropWhile_cons
abbrev acr:=@List.mem_of_find?_eq_some
abbrev acs:=@List.range_succ
abbrev acu:=@Go.Proofs.Tryz.ntmps72
abbrev acv:=@Go.Proofs.Tryz.ntmps79
abbrev acw:=@Go.Proofs.Tryz.func106
abbrev acy:=@Go.Proofs.Tryz.func100
abbrev acz:=@List.drop_drop
def acB(p:Prop):Prop:=p
theorem acA{p:Prop}(h:p):acB p:=h
theorem acB.o{p:Prop}(h:acB p):p:=h
theorem acC{n:Nat}:n≤n:=Nat.le_refl n
theorem acD{n:Nat}{w:World}:Below n w w:=Below.refl n w
theorem dX{k:IntKind}{a b:Int}(h:a=b):Ending.returned (.int k a)= .returned (.int k b):=by rw[h]
theorem gU{a b:Bool}(h:a=b):Ending.returned (.bool a)= .returned (.bool b):=by rw[h]
theorem own:ownKnob Tryz.prog.godebug=none:=by kernel_rfl
theorem laidOut:laidOutB Tryz.prog=true:=by kernel_rfl
def vo(P:Program)(ts:List TypeId):Prop:=∀t∈ts,P.readableRec t=true∧t<P.types.size
theorem xg{H:Type}{enc:TypeId×Value→H}{P:Program}(hl:laidOutB P=true){W W':World}(hb:Below W.heap.size W W'):
  ∀(ts:List TypeId) (vs:List Value) (ds:List (DataW H)) (ps:List MemPlace),vo P ts→
   DataW.TrodAll enc P W 0 (fun _=>true) true ts vs ds ps→(∀x∈ps,x.block<W.heap.size)→
   DataW.TrodAll enc P W' 0 (fun b=>decide (b<W.heap.size)) true ts vs ds ps
 |[],[],[],_,_,h,_=>h
 |t::ts,v::vs,d::ds,ps,hr,h,hlt=>by
  obtain⟨p,q,h1,h2,rfl⟩:=h;have h3:=hr t (by simp)
  exact⟨p,q,Below.trod hl h3.1 h3.2 h1 hb (fun x hx=>hlt x (abz _ hx)),
   xg hl hb ts vs ds q (fun t' h'=>hr t' (acd _ h')) h2 (fun x hx=>hlt x (ab4 _ hx)),rfl⟩
 |[],_::_,_,_,_,h,_=>h.elim
 |[],[],_::_,_,_,h,_=>h.elim
 |_::_,[],_,_,_,h,_=>h.elim
 |_::_,_::_,[],_,_,h,_=>h.elim
theorem Cy{H:Type}{enc:TypeId×Value→H}{P:Program}(hl:laidOutB P=true){f:Func}{s:ChangeSpec}{apart fresh handsOn:Bool}{W W':World}{args:Array Value}{ds gs:List (DataW H)}{before:List MemPlace}
  (hr:vo P f.params.toList)(hv:s.vars=[])(hW:DataW.Whole enc P f.params.toList s.vars apart W args.toList ds gs before)(hb:Below W.heap.size W W')
  {T:TypeId}(hT:f.resultTypes= #[T])(hu:P.underlying T=some .bool)
  (hs:s.fn H (ds++gs)={results:=[.lit (.bool true)],args:=ds}):
  s.post enc P f apart fresh handsOn false W args (.bool true) W':=by
 have hlt:=hW.lt;have hW':=hW;obtain⟨p,q,hA,hV,rfl,hfz,hnd⟩:=hW;have hq:q=[]:=by
  rw[hv]at hV;exact(trodVars_none hV).2
 subst hq;refine⟨ds,gs,_,[],p,[],hW',?_,?_,?_,?_,fun h=>by cases h⟩
 ·rw[hs,hT];exact trodAll_mk1 (shut_bool hu _)
 ·rw[hs];exact xg hl hb _ _ _ _ hr hA (fun x hx=>hlt x (abz _ hx))
 ·rw[hs,hv];rfl
 ·exact hb.frame _
def ZI(W:World)(e:Ending)(W':World):Prop:=e= .returned (.bool true)∧Below W.heap.size W W'
structure Keeps(fp:Nat→Prop)(w w':World):Prop where
 os:w'.os=w.os
 tape:w'.tape=w.tape
 output:w'.output=w.output
 size:w.heap.size≤w'.heap.size
 block:∀b,b<w.heap.size→¬fp b→w'.heap[b]? =w.heap[b]?
theorem Keeps.refl(fp:Nat→Prop)(w:World):Keeps fp w w:=⟨rfl,rfl,rfl,Nat.le_refl _,fun _ _ _=>rfl⟩
theorem Keeps.trans{fp fp':Nat→Prop}{a b c:World}(h:Keeps fp a b)(k:Keeps fp' b c)(hs:∀x,x<a.heap.size→fp' x→fp x):Keeps fp a c:=
 ⟨k.os.trans h.os,k.tape.trans h.tape,k.output.trans h.output,Nat.le_trans h.size k.size,fun x hx hn=>(k.block x (Pd hx h.size) (fun hf=>hn (hs x hx hf))).trans (h.block x hx hn)⟩
theorem Keeps.mono{fp fp':Nat→Prop}{a b:World}(h:Keeps fp a b)(hs:∀x,x<a.heap.size→fp x→fp' x):Keeps fp' a b:=
 ⟨h.os,h.tape,h.output,h.size,fun x hx hn=>h.block x hx (fun hf=>hn (hs x hx hf))⟩
theorem Keeps.below{B:Nat}{w w':World}(h:Below B w w'):Keeps (fun b=>B≤b) w w':=
 ⟨h.os,h.tape,h.output,h.size,fun b _ hn=>h.block b (by omega)⟩
theorem Keeps.mh{fp:Nat→Prop}{B:Nat}{w w':World}(h:Keeps fp w w')(hB:B≤w.heap.size)(hf:∀x,x<B→¬fp x):Below B w w':=
 ⟨h.os,h.tape,h.output,h.size,fun b hb=>h.block b (by omega) (hf b hb)⟩
structure ah(S:Nat→Prop)(w:World)(a:Option Addr)(len:Nat)(vs:List Value):Prop where
 length:vs.length=len
 small:len≤maxLen
 at_:0<len→∃b off,a=some ⟨b,off,none⟩∧S b∧b<w.heap.size∧∀i,i<len→w.cell? ⟨b,off+i,none⟩=vs[i]?
theorem ah.kept{S:Nat→Prop}{w w':World}{a:Option Addr}{len:Nat}{vs:List Value}(h:ah S w a len vs)(hs:w.heap.size≤w'.heap.size)(hk:∀b,S b→b<w.heap.size→w'.heap[b]? =w.heap[b]?):ah S w' a len vs:=by
 refine⟨h.length,h.small,fun h0=> ?_⟩;obtain⟨b,off,e,hS,hb,hc⟩:=h.at_ h0;exact⟨b,off,e,hS,by omega,fun i hi=>(Pe (w:=w) (w':=w') (a:=⟨b,off+i,none⟩) (hk b hS hb)).trans (hc i hi)⟩
theorem ah.below{S:Nat→Prop}{B:Nat}{w w':World}{a:Option Addr}{len:Nat}{vs:List Value}(h:ah S w a len vs)(hb:Below B w w')(hB:w.heap.size≤B):ah S w' a len vs:=
 h.kept hb.size (fun b _ hl=>hb.block b (by omega))
theorem ah.mono{S S':Nat→Prop}{w:World}{a:Option Addr}{len:Nat}{vs:List Value}(h:ah S w a len vs)(hs:∀b,S b→S' b):ah S' w a len vs:=
 ⟨h.length,h.small,fun h0=>let⟨b,off,e,hS,r⟩:=h.at_ h0;⟨b,off,e,hs b hS,r⟩⟩
theorem ah.move{S S':Nat→Prop}{w w':World}{a:Option Addr}{len:Nat}{vs:List Value}(h:ah S w a len vs)(hs:w.heap.size≤w'.heap.size)(hk:∀b,S b→b<w.heap.size→S' b∧w'.heap[b]? =w.heap[b]?):ah S' w' a len vs:=by
 refine⟨h.length,h.small,fun h0=> ?_⟩;obtain⟨b,off,e,hS,hb,hc⟩:=h.at_ h0;exact⟨b,off,e,(hk b hS hb).1,by omega,fun i hi=>(Pe (w:=w) (w':=w') (a:=⟨b,off+i,none⟩) (hk b hS hb).2).trans (hc i hi)⟩
theorem ah.nil(S:Nat→Prop)(w:World)(a:Option Addr):ah S w a 0 []:=⟨rfl,by simp,fun h=>by omega⟩
structure aK(S:Nat→Prop)(w:World)(a:Option Addr)(len:Nat)(ss:List ByteArray):Prop where
 row:ah S w a len (ss.map .string)
 short:∀s∈ss,s.size≤maxLen
theorem aK.length{S:Nat→Prop}{w:World}{a:Option Addr}{len:Nat}{ss:List ByteArray}(h:aK S w a len ss):ss.length=len:=by have:=h.row.length;simpa using this
theorem aK.below{S:Nat→Prop}{B:Nat}{w w':World}{a:Option Addr}{len:Nat}{ss:List ByteArray}(h:aK S w a len ss)(hb:Below B w w')(hB:w.heap.size≤B):aK S w' a len ss:=⟨h.row.below hb hB,h.short⟩
theorem aK.kept{S:Nat→Prop}{w w':World}{a:Option Addr}{len:Nat}{ss:List ByteArray}(h:aK S w a len ss)(hs:w.heap.size≤w'.heap.size)(hk:∀b,S b→b<w.heap.size→w'.heap[b]? =w.heap[b]?):aK S w' a len ss:=⟨h.row.kept hs hk,h.short⟩
theorem aK.mono{S S':Nat→Prop}{w:World}{a:Option Addr}{len:Nat}{ss:List ByteArray}(h:aK S w a len ss)(hs:∀b,S b→S' b):aK S' w a len ss:=⟨h.row.mono hs,h.short⟩
theorem aK.cell{S:Nat→Prop}{w:World}{a:Option Addr}{len:Nat}{ss:List ByteArray}(h:aK S w a len ss)(k:Nat)(hk:k<len):
  ∃b off s,a=some ⟨b,off,none⟩∧S b∧b<w.heap.size∧ss[k]? =some s∧s.size≤maxLen∧w.cell? ⟨b,off+k,none⟩=some (.string s):=by
 obtain⟨b,off,e,hS,hb,hc⟩:=h.row.at_ (by omega);have hl:=h.length;have hs:ss[k]? =some (ss[k]'(by omega)):=List.getElem?_eq_getElem (by omega);refine⟨b,off,ss[k]'(by omega),e,hS,hb,hs,h.short _ (abP _),?_⟩;rw[hc k hk,List.getElem?_map,hs];rfl
def rW{α:Type}(p:α→Bool)(l:List α):Int:=match l.findIdx? p with|some i=>(i:Int)|none=> -1
theorem qx{α:Type}{p:α→Bool}{l:List α}(h:l.any p=false):rW p l= -1:=by
 have:l.findIdx? p=none:=by
  rw[abf];simpa using h
 simp[rW,this]
theorem zO{α:Type}{p:α→Bool}{l:List α}{k:Nat}{x:α}(h:(l.take k).any p=false)(hx:l[k]? =some x)(hp:p x=true):rW p l=k:=by
 have:l.findIdx? p=some k:=by
  rw[aa5];obtain⟨hk,e⟩:=aae.1 hx;refine⟨hk,by rw[e];exact hp,fun j hj=> ?_⟩;have h1:l[j]∈l.take k:=by
   rw[List.mem_take_iff_getElem];exact⟨j,by omega,rfl⟩
  have:=List.any_eq_false.1 h _ h1;simpa using this
 simp[rW,this]
theorem any_take_succ{α:Type}{p:α→Bool}{l:List α}{k:Nat}{x:α}(h:(l.take k).any p=false)(hx:l[k]? =some x)(hp:p x=false):(l.take (k+1)).any p=false:=by
 obtain⟨hk,e⟩:=aae.1 hx;rw[aah hk,List.any_append,h,e];simp[hp]
theorem RQ{α:Type}(p:α→Bool)(l:List α):decide (0≤rW p l)=l.any p:=by
 cases h:l.any p
 ·rw[qx h];rfl
 ·unfold rW;cases h2:l.findIdx? p with
  |none=>
   rw[abf]at h2;rw[List.any_eq_true]at h;obtain⟨x,hx,hp⟩:=h;have:=h2 x hx;simp[hp]at this
  |some i=>simp
end Go.Proofs.YtjnhnlabpccgjaaGreatDoor
