/- Lemmas -/
import Derived.Test.YthillkfmdndedaaGreatDoorRows
import Derived.WalkKit
import Derived.ProofKit
import Derived.OpenShut
import Derived.Lib.Hide
import Derived.SizedLaws
set_option maxRecDepth 100000
set_option maxHeartbeats 64000000
set_option linter.all false
namespace Go.Proofs.YthillkfmdndedaaGreatDoor
open Go.ChangeShapes Go.WideShapes Go.ChangeAt Go.RowKit
abbrev _root_.Go.Proofs.Dy:=Calls Tryz.prog
theorem _root_.Go.Proofs.FR{α:Type _}{o:Option α}{x y:α}(h:o=some x)(e:x=y):o=some y:=h.trans (congrArg some e)
abbrev _root_.Go.Proofs.I8:=List UInt8
abbrev _root_.Go.Proofs.Mx:=Option Addr
abbrev qW:=@Array.getElem?_eq_some_iff
abbrev Pd:=@Nat.lt_of_lt_of_le
abbrev Pe:=@Go.World.size_alloc
abbrev Wy:=@Decidable.byContradiction
abbrev aac:=@List.eq_nil_of_length_eq_zero
abbrev aad:=@decide_eq_false
abbrev aae:=@Option.some.injEq
abbrev aaf:=@Go.IntWalk.i64_in
abbrev aag:=@Option.isSome_iff_exists
abbrev aah:=@Go.Proofs.Tryz.underlying194
abbrev aai:=@List.take_succ_eq_append_getElem
abbrev aaj:=@List.getElem?_eq_some_iff
abbrev aak:=@decide_eq_true
abbrev aal:=@Go.World.block_lt_of_cell?
abbrev aam:=@List.getElem?_toArray
abbrev aan:=@List.setIfInBounds_toArray
abbrev aao:=@Option.map_some
abbrev aap:=@decide_eq_true_eq
abbrev aaq:=@Go.info_parts
abbrev aar:=@List.getElem?_cons_zero
abbrev aas:=@List.map_append
abbrev aat:=@Option.some.inj
abbrev aau:=@List.map_cons
abbrev aav:=@Go.bodyPost_ret
abbrev aaw:=@List.getElem?_cons_succ
abbrev aax:=@List.getElem?_append_right
abbrev aay:=@List.drop_eq_nil_of_le
abbrev aaz:=@List.append_nil
abbrev aaA:=@List.mem_append
abbrev aaB:=@List.getElem?_take
abbrev aaC:=@Go.Proofs.Tryz.underlying268
abbrev aaD:=@List.mem_of_getElem?
abbrev aaE:=@List.pairwise_cons
abbrev aaF:=@List.map_congr_left
abbrev aaG:=@List.mem_filter
abbrev aaH:=@Go.Value.slice.injEq
abbrev aaI:=@Nat.eq_zero_or_pos
abbrev aaJ:=@List.map_take
abbrev aaK:=@congrArg
abbrev aaL:=@Go.Proofs.Tryz.ntmps21
abbrev aaM:=@List.length_singleton
abbrev aaN:=@List.mem_of_mem_take
abbrev aaO:=@List.set_cons_zero
abbrev aaP:=@List.set_cons_succ
abbrev aaQ:=@Go.Proofs.Tryz.func21
abbrev aaR:=@Go.Proofs.Tryz.underlying267
abbrev aaS:=@Go.run_loadVar_row
abbrev aaT:=@List.take_append_drop
abbrev aaU:=@List.map_drop
abbrev aaV:=@List.drop_drop
abbrev aaW:=@Bool.and_eq_true
abbrev aaX:=@List.not_mem_nil
abbrev aaY:=@List.getElem?_append_left
abbrev aaZ:=@List.length_replicate
abbrev aa0:=@Go.Proofs.Tryz.ntmps48
abbrev aa1:=@decide_eq_false_iff_not
abbrev aa2:=@Go.Proofs.Tryz.underlying3
abbrev aa3:=@Nat.min_eq_right
abbrev aa4:=@List.getD_eq_getElem?_getD
abbrev aa5:=@Go.Proofs.Tryz.func48
abbrev aa6:=@Ne.symm
abbrev aa7:=@Go.Proofs.Tryz.underlying5
abbrev aa8:=@Go.Proofs.Tryz.underlying9
abbrev aa9:=@List.mem_range
abbrev abb:=@Go.BigFrame.wpList_want
abbrev abd:=@Prod.ext
abbrev abe:=@List.drop_left'
abbrev abf:=@List.filter_cons
abbrev abg:=@List.drop_eq_getElem_cons
abbrev abh:=@Go.RowKit.Below.alloc
abbrev abj:=@List.mem_append_left
abbrev abk:=@List.cons.injEq
abbrev abl:=@List.take_append_of_le_length
abbrev abm:=@List.getElem?_replicate
abbrev abn:=@List.map_nil
abbrev abo:=@List.find?_eq_none
abbrev abp:=@Nat.mul_div_cancel
abbrev abq:=@List.length_filter_le
abbrev abr:=@List.take_left'
abbrev abt:=@Go.Proofs.Tryz.ntmps129
abbrev abu:=@List.take_add_one
abbrev abv:=@List.mem_cons_of_mem
abbrev abw:=@List.length_dropLast
abbrev abx:=@List.mem_of_mem_drop
abbrev aby:=@List.countP_cons
abbrev abz:=@Go.Proofs.Tryz.ntmps44
abbrev abA:=@Go.Proofs.Tryz.func129
abbrev abB:=@Go.callsIn_wide
abbrev abC:=@List.filter_eq_self
abbrev abD:=@Go.ByteArray.toList_eq
abbrev abE:=@List.flatten_append
abbrev abF:=@List.flatMap_append
abbrev abG:=@List.getElem?_drop
abbrev abH:=@Bool.or_eq_true
abbrev abI:=@UInt8.toNat_inj
abbrev abJ:=@Bool.true_eq_false
abbrev abK:=@and_true
abbrev abL:=@Go.Proofs.Tryz.func44
abbrev abM:=@or_false
abbrev abN:=@List.drop_append_of_le_length
abbrev abO:=@List.getLast?_eq_some_getLast
abbrev abP:=@Go.Result.andThen_ok
abbrev abQ:=@List.pairwise_map
abbrev abR:=@List.size_toArray
abbrev abS:=@List.mem_append_right
abbrev abT:=@Go.run_underlying
abbrev abU:=@Go.wpList_plain
abbrev abV:=@Go.Sem.run_bind
abbrev abW:=@Go.Proofs.Tryz.ntmps62
abbrev abX:=@Go.Proofs.Tryz.ntmps53
abbrev abY:=@Nat.le_of_eq
abbrev abZ:=@Go.Proofs.Tryz.ntmps22
abbrev ab0:=@Go.DataW.trod_int
abbrev ab1:=@List.map_toArray
abbrev ab2:=@List.cons_append
abbrev ab3:=@Go.RowKit.run_makeMap
abbrev ab4:=@Go.Proofs.Tryz.func62
abbrev ab5:=@Go.Proofs.Tryz.func53
abbrev ab6:=@Go.Proofs.Tryz.func22
abbrev ab7:=@Nat.le_succ
abbrev ab8:=@List.take_succ_cons
abbrev ab9:=@List.countP_eq_zero
abbrev acd:=@List.findIdx?_eq_none_iff
abbrev ace:=@List.mem_of_find?_eq_some
abbrev acf:=@List.getLastD_eq_getLast?
abbrev acg:=@Option.eq_none_or_eq_some
abbrev ach:=@List.range_succ
abbrev aci:=@List.getElem?_eq_none_iff
abbrev acj:=@Go.Sem.run_pure
abbrev acn:=@Go.Proofs.Tryz.ntmps57
abbrev aco:=@Go.Proofs.Tryz.ntmps64
def acr(p:Prop):Prop:=p
theorem acp{p:Prop}(h:p):acr p:=h
theorem acr.o{p:Prop}(h:acr p):p:=h
theorem acs{n:Nat}:n<=n:=Nat.le_refl n
theorem acu{n:Nat}{w:World}:Below n w w:=Below.refl n w
theorem dX{k:IntKind}{a b:Int}(h:a=b):Ending.returned (.int k a)= .returned (.int k b):=by rw[h]
theorem iW{a b:Bool}(h:a=b):Ending.returned (.bool a)= .returned (.bool b):=by rw[h]
theorem own:ownKnob Tryz.prog.godebug=none:=by kernel_rfl
theorem laidOut:laidOutB Tryz.prog=true:=by kernel_rfl
def D7(P:Program)(m:List TypeId):Prop:=∀t∈m,P.readableRec t=true/\t<P.types.size
theorem xX{H:Type}{enc:TypeId×Value->H}{P:Program}(D:laidOutB P=true){W C:World}(B:Below W.heap.size W C):
  ∀(u:List TypeId) (vs:List Value) (y:List (DataW H)) (ps:List MemPlace),D7 P u->
   DataW.TrodAll enc P W 0 (λ _=>true) true u vs y ps->(∀x∈ps,x.block<W.heap.size)->
   DataW.TrodAll enc P C 0 (λ b=>decide (b<W.heap.size)) true u vs y ps
 |[],[],[],_,_,h,_=>h
 |t::u,v::vs,d::y,ps,A,h,m=>by
  obtain⟨p,q,G,F,rfl⟩:=h;have E:=A t (by simp)
  exact⟨p,q,Below.trod D E.1 E.2 G B (λ x z=>m x (abj _ z)),
   xX D B u vs y q (λ I J=>A I (abv _ J)) F (λ x z=>m x (abS _ z)),rfl⟩
 |[],_::_,_,_,_,h,_=>h.elim
 |[],[],_::_,_,_,h,_=>h.elim
 |_::_,[],_,_,_,h,_=>h.elim
 |_::_,_::_,[],_,_,h,_=>h.elim
theorem VH{H:Type}{enc:TypeId×Value->H}{P:Program}(R:laidOutB P=true){f:Func}{s:ChangeSpec}{u z m:Bool}{W J:World}{y:Array Value}{A C:List (DataW H)}{before:List MemPlace}
  (U:D7 P f.params.toList)(K:s.vars=[])(D:DataW.Whole enc P f.params.toList s.vars u W y.toList A C before)(I:Below W.heap.size W J)
  {T:TypeId}(X:f.resultTypes= #[T])(O:P.underlying T=some .bool)
  (E:s.fn H (A++C)={results:=[.lit (.bool true)],args:=A}):
  s.post enc P f u z m false W y (.bool true) J:=by
 have F:=D.lt;have B:=D;obtain⟨p,q,N,G,rfl,Q,S⟩:=D;have M:q=[]:=by
  rw[K]at G;exact(trodVars_none G).2
 subst M;refine⟨A,C,_,[],p,[],B,?_,?_,?_,?_,λ h=>by cases h⟩
 ·rw[E,X];exact trodAll_mk1 (shut_bool O _)
 ·rw[E];exact xX R I _ _ _ _ U N (λ x V=>F x (abj _ V))
 ·rw[E,K];rfl
 ·exact I.frame _
def Fine(W:World)(e:Ending)(m:World):Prop:=e= .returned (.bool true)/\Below W.heap.size W m
theorem bcell{B:Nat}{W m:World}(u:Below B W m):(∀b o,b<B->m.cell? ⟨b,o,none⟩=W.cell? ⟨b,o,none⟩)/\(∀b o,b<B->m.frozen? ⟨b,o,none⟩=W.frozen? ⟨b,o,none⟩):=
 ⟨λ b o h=>u.cell (p:=⟨b,o,none⟩) h,λ b o h=>u.frozen (p:=⟨b,o,none⟩) h⟩
structure Keeps(fp:Nat->Prop)(w w':World):Prop where
 os:w'.os=w.os
 tape:w'.tape=w.tape
 output:w'.output=w.output
 size:w.heap.size<=w'.heap.size
 block:∀b,b<w.heap.size->¬fp b->w'.heap[b]? =w.heap[b]?
theorem Keeps.refl(fp:Nat->Prop)(w:World):Keeps fp w w:=⟨rfl,rfl,rfl,Nat.le_refl _,λ _ _ _=>rfl⟩
theorem Keeps.trans{fp fp':Nat->Prop}{a b c:World}(h:Keeps fp a b)(k:Keeps fp' b c)(y:∀x,x<a.heap.size->fp' x->fp x):Keeps fp a c:=
 ⟨k.os.trans h.os,k.tape.trans h.tape,k.output.trans h.output,Nat.le_trans h.size k.size,λ x m u=>(k.block x (Pd m h.size) (λ z=>u (y x m z))).trans (h.block x m u)⟩
theorem Keeps.mono{fp fp':Nat->Prop}{a b:World}(h:Keeps fp a b)(u:∀x,x<a.heap.size->fp x->fp' x):Keeps fp' a b:=
 ⟨h.os,h.tape,h.output,h.size,λ x m z=>h.block x m (λ y=>z (u x m y))⟩
theorem Keeps.below{B:Nat}{w w':World}(h:Below B w w'):Keeps (λ b=>B<=b) w w':=
 ⟨h.os,h.tape,h.output,h.size,λ b _ m=>h.block b (by omega)⟩
theorem Keeps.bS{fp:Nat->Prop}{B:Nat}{w w':World}(h:Keeps fp w w')(y:B<=w.heap.size)(u:∀x,x<B->¬fp x):Below B w w':=
 ⟨h.os,h.tape,h.output,h.size,λ b m=>h.block b (by omega) (u b m)⟩
structure ah(S:Nat->Prop)(w:World)(a:Mx)(len:Nat)(vs:List Value):Prop where
 length:vs.length=len
 small:len<=maxLen
 at_:0<len->∃b off,a=some ⟨b,off,none⟩/\S b/\b<w.heap.size/\∀i,i<len->w.cell? ⟨b,off+i,none⟩=vs[i]?
theorem ah.kept{S:Nat->Prop}{w w':World}{a:Mx}{u:Nat}{vs:List Value}(h:ah S w a u vs)(E:w.heap.size<=w'.heap.size)(z:∀b,S b->b<w.heap.size->w'.heap[b]? =w.heap[b]?):ah S w' a u vs:=by
 refine⟨h.length,h.small,λ C=> ?_⟩;obtain⟨b,m,e,y,B,A⟩:=h.at_ C;exact⟨b,m,e,y,by omega,λ i D=>(World.cell?_of_block (w:=w) (w':=w') (a:=⟨b,m+i,none⟩) (z b y B)).trans (A i D)⟩
theorem ah.below{S:Nat->Prop}{B:Nat}{w w':World}{a:Mx}{m:Nat}{vs:List Value}(h:ah S w a m vs)(u:Below B w w')(y:w.heap.size<=B):ah S w' a m vs:=
 h.kept u.size (λ b _ z=>u.block b (by omega))
theorem ah.mono{S S':Nat->Prop}{w:World}{a:Mx}{m:Nat}{vs:List Value}(h:ah S w a m vs)(z:∀b,S b->S' b):ah S' w a m vs:=
 ⟨h.length,h.small,λ y=>let⟨b,u,e,A,r⟩:=h.at_ y;⟨b,u,e,z b A,r⟩⟩
theorem ah.move{S S':Nat->Prop}{w w':World}{a:Mx}{m:Nat}{vs:List Value}(h:ah S w a m vs)(E:w.heap.size<=w'.heap.size)(y:∀b,S b->b<w.heap.size->S' b/\w'.heap[b]? =w.heap[b]?):ah S' w' a m vs:=by
 refine⟨h.length,h.small,λ C=> ?_⟩;obtain⟨b,u,e,z,A,B⟩:=h.at_ C;exact⟨b,u,e,(y b z A).1,by omega,λ i D=>(World.cell?_of_block (w:=w) (w':=w') (a:=⟨b,u+i,none⟩) (y b z A).2).trans (B i D)⟩
theorem ah.nil(S:Nat->Prop)(w:World)(a:Mx):ah S w a 0 []:=⟨rfl,by simp,λ h=>by omega⟩
structure aW(S:Nat->Prop)(w:World)(a:Mx)(len:Nat)(ss:List ByteArray):Prop where
 row:ah S w a len (ss.map .string)
 short:∀s∈ss,s.size<=maxLen
theorem aW.length{S:Nat->Prop}{w:World}{a:Mx}{m:Nat}{ss:List ByteArray}(h:aW S w a m ss):ss.length=m:=by have:=h.row.length;simpa using this
theorem aW.below{S:Nat->Prop}{B:Nat}{w w':World}{a:Mx}{m:Nat}{ss:List ByteArray}(h:aW S w a m ss)(y:Below B w w')(u:w.heap.size<=B):aW S w' a m ss:=⟨h.row.below y u,h.short⟩
theorem aW.kept{S:Nat->Prop}{w w':World}{a:Mx}{m:Nat}{ss:List ByteArray}(h:aW S w a m ss)(y:w.heap.size<=w'.heap.size)(u:∀b,S b->b<w.heap.size->w'.heap[b]? =w.heap[b]?):aW S w' a m ss:=⟨h.row.kept y u,h.short⟩
theorem aW.mono{S S':Nat->Prop}{w:World}{a:Mx}{m:Nat}{ss:List ByteArray}(h:aW S w a m ss)(u:∀b,S b->S' b):aW S' w a m ss:=⟨h.row.mono u,h.short⟩
theorem aW.cell{S:Nat->Prop}{w:World}{a:Mx}{u:Nat}{ss:List ByteArray}(h:aW S w a u ss)(k:Nat)(z:k<u):
  ∃b m s,a=some ⟨b,m,none⟩/\S b/\b<w.heap.size/\ss[k]? =some s/\s.size<=maxLen/\w.cell? ⟨b,m+k,none⟩=some (.string s):=by
 obtain⟨b,m,e,A,B,C⟩:=h.row.at_ (by omega);have D:=h.length;have y:ss[k]? =some (ss[k]'(by omega)):=List.getElem?_eq_getElem (by omega);refine⟨b,m,ss[k]'(by omega),e,A,B,y,h.short _ (List.getElem_mem _),?_⟩;rw[C k z,List.getElem?_map,y];rfl
def NQ{α:Type}(p:α->Bool)(l:List α):Int:=match l.findIdx? p with|some i=>(i:Int)|none=> -1
theorem G6{α:Type}{p:α->Bool}{l:List α}(h:l.any p=false):NQ p l= -1:=by
 have:l.findIdx? p=none:=by
  rw[acd];simpa using h
 simp[NQ,this]
theorem R_{α:Type}{p:α->Bool}{l:List α}{k:Nat}{x:α}(h:(l.take k).any p=false)(u:l[k]? =some x)(y:p x=true):NQ p l=k:=by
 have:l.findIdx? p=some k:=by
  rw[List.findIdx?_eq_some_iff_getElem];obtain⟨m,e⟩:=aaj.1 u;refine⟨m,by rw[e];exact y,λ j A=> ?_⟩;have z:l[j]∈l.take k:=by
   rw[List.mem_take_iff_getElem];exact⟨j,by omega,rfl⟩
  have:=List.any_eq_false.1 h _ z;simpa using this
 simp[NQ,this]
theorem any_take_succ{α:Type}{p:α->Bool}{l:List α}{k:Nat}{x:α}(h:(l.take k).any p=false)(u:l[k]? =some x)(y:p x=false):(l.take (k+1)).any p=false:=by
 obtain⟨m,e⟩:=aaj.1 u;rw[aai m,List.any_append,h,e];simp[y]
theorem VI{α:Type}(p:α->Bool)(l:List α):decide (0<=NQ p l)=l.any p:=by
 cases h:l.any p
 ·rw[G6 h];rfl
 ·unfold NQ;cases m:l.findIdx? p with
  |none=>
   rw[acd]at m;rw[List.any_eq_true]at h;obtain⟨x,u,y⟩:=h;have:=m x u;simp[y]at this
  |some i=>simp
