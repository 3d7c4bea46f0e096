/- The reference: Look, place, file, rights. Rows whose elements have more than one cell: append. The reference in memory: what is turned, part by part. A drawn region whose last operation is a store: the condition S is asked behind each operation but that one. The reference: cut. -/
import Derived.Test.YtjnhnlabpccgjaaGreatM19
import Derived.Test.YtjnhnlabpccgjaaGreatM01
import Derived.Deep.RegionHeld3
import Derived.BigRegion
namespace Go.Proofs.YtjnhnlabpccgjaaGreat
open Go.ChangeShapes Go.WideShapes Go.ChangeAt Go.RowKit
set_option linter.unusedVariables false
set_option linter.unusedSimpArgs false
theorem wR {S S':Nat→Prop} (a:Option Addr) (n c:Nat) (ls:List Nm) (a':Option Addr) (n' c':Nat) (ls':List Nm) (w:World) (hS:aP S w a n (ls.map strOf)) (hS':aP S' w a' n' (ls'.map strOf)):
  Calls Tryz.prog 147 #[.slice a n c, .slice a' n' c'] w fun e w'=>e= .returned (.int .i64 (iC ls ls'))∧Below w.heap.size w w':=by
 have H1:=Lib.hid (pz a n c ls w hS)
 have H2:=Lib.hid (fun w1 (hb:Below w.heap.size w w1)=>pz a' n' c' ls' w1 (hS'.below hb (Nat.le_refl _)))
 clear hS hS'
 unfold iC
 by_cases h0:bK ls=0
 ·rw[h0]at H1
  rw[if_neg (by rw[h0];simp)]
  clear h0
  go_enter Tryz.func147,Tryz.ntmps147
  go_wp2_with fail
  (with_reducible refine H1.out.mono ?_)
  rintro e w1 ⟨rfl,hb1⟩
  have HB1:=Lib.hid hb1
  clear hb1
  go_wp2_with fail
  (with_reducible refine(H2.out w1 HB1.out).mono ?_)
  rintro e w2 ⟨rfl,hb2⟩
  go_wp2_with fail
  go_ret
  exact⟨rfl,HB1.out.trans (hb2.mono HB1.out.size)⟩
 ·rw[if_pos h0]
  have hne:(bK ls==0)=false:=by simpa using h0
  have hne2:(bK ls !=0)=true:=by simpa using h0
  clear h0
  go_enter Tryz.func147,Tryz.ntmps147
  go_wp2_with fail
  (with_reducible refine H1.out.mono ?_)
  rintro e w1 ⟨rfl,hb1⟩
  go_wp2_with fail
  go_ret
  exact⟨rfl,hb1⟩
section
variable {F:Nat→Prop} {r:Nat} {T:aF}
theorem vT {S:Nat→Prop} (a:Option Addr) (n c:Nat) (ls:List Nm) (w:World) (h:gW F w r T) (hT:fB T) (hE:(aU T).length≤1000000) (hS:aP S w a n (ls.map strOf)):
  Calls Tryz.prog 83 #[ptr r, .slice a n c] w fun e w'=>e= .returned (.tuple #[.int .i64 (dY T ls).1, .int .i64 (dY T ls).2])∧Below w.heap.size w w':=by
 have H1:=Lib.hid (pz a n c ls w hS)
 have H2:=Lib.hid (fun w1 (hb:Below w.heap.size w w1)=>rJ a n c ls w1 (h.below hb (Nat.le_refl _)) hT hE (hS.below hb (Nat.le_refl _)))
 clear hS h hT hE
 unfold dY
 by_cases h0:bK ls=0
 ·rw[h0]at H1
  rw[if_neg (by rw[h0];simp)]
  clear h0
  go_enter Tryz.func83,Tryz.ntmps83
  go_wp2_with fail
  (with_reducible refine H1.out.mono ?_)
  rintro e w1 ⟨rfl,hb1⟩
  have HB1:=Lib.hid hb1
  clear hb1
  go_wp2_with fail
  (with_reducible refine(H2.out w1 HB1.out).mono ?_)
  rintro e w2 ⟨rfl,hb2⟩
  go_wp2_with fail
  go_ret2
  exact⟨rfl,HB1.out.trans (hb2.mono HB1.out.size)⟩
 ·rw[if_pos h0]
  have hne:(bK ls==0)=false:=by simpa using h0
  have hne2:(bK ls !=0)=true:=by simpa using h0
  clear h0
  go_enter Tryz.func83,Tryz.ntmps83
  go_wp2_with fail
  (with_reducible refine H1.out.mono ?_)
  rintro e w1 ⟨rfl,hb1⟩
  go_wp2_with fail
  go_ret2
  exact⟨rfl,hb1⟩
def Ec (T:aF) (id:Int):Int:=if bM T id=0 then nH (nu id) T else 0
set_option maxHeartbeats 1000000 in
theorem oo (id:Int) (w:World) (h:gW F w r T) (hT:rz T):Calls Tryz.prog 79 #[ptr r, .int .i64 id] w fun e w'=>e= .returned (.tuple #[.int .i64 (Ec T id), .int .i64 (bM T id)])∧w=w':=by
 have HR:=Lib.hid (uJ id w h hT.len)
 have hr0:=h.low r h.own
 cases hx:ah id T with
 |none=>
  have e1:bM T id=20:=by unfold bM;rw[hx]
  have e2:Ec T id=0:=by unfold Ec;simp only[e1];rfl
  rw[yO hx]at HR
  rw[e1,e2]
  clear h hx hT e1 e2
  go_enter Tryz.func79,Tryz.ntmps79
  go_wp2_with fail
  (with_reducible refine HR.out.mono ?_)
  rintro e w1 ⟨rfl,rfl⟩
  go_wp2_with fail
  go_ret2
  exact⟨rfl,rfl⟩
 |some x=>
  obtain⟨k,hk,hq⟩:=jr hT.sorted hx
  rw[hk]at HR
  obtain⟨b,off,c,hc0,hF,hb,hkl,c0,c1,c2,c3,c4,c5⟩:=h.node hq
  have i0:(0:Int)≤k:=by omega
  have i1:(k:Int)<T.length:=by omega
  have i2:¬(k:Int)<0:=by omega
  simp only at c0 c1 c2 c3 c4 c5
  by_cases hk2:x.kind=2
  ·have e1:bM T id=22:=by unfold bM;rw[hx];exact if_pos hk2
   have e2:Ec T id=0:=by unfold Ec;simp only[e1];rfl
   rw[e1,e2]
   rw[hk2]at c1
   clear hk2 e1 e2 h hx hk hq hT
   go_enter Tryz.func79,Tryz.ntmps79
   go_wp2_with fail
   (with_reducible refine HR.out.mono ?_)
   rintro e w1 ⟨rfl,rfl⟩
   go_wp2_with fail
   go_ret2
   exact⟨rfl,rfl⟩
  ·have e1:bM T id=0:=by unfold bM;rw[hx];exact if_neg hk2
   have e2:Ec T id=k:=by unfold Ec;simp only[e1];exact hk
   rw[e1,e2]
   have e3:(x.kind==2)=false:=by simpa using hk2
   clear hk2 e1 e2 h hx hk hq hT
   go_enter Tryz.func79,Tryz.ntmps79
   go_wp2_with fail
   (with_reducible refine HR.out.mono ?_)
   rintro e w1 ⟨rfl,rfl⟩
   go_wp2_with fail
   go_ret2
   exact⟨rfl,rfl⟩
set_option maxHeartbeats 2000000 in
theorem kP {S:Nat→Prop} (a:Option Addr) (n c:Nat) (ls:List Nm) (w:World) (h:gW F w r T) (hT:fB T) (hE:(aU T).length≤1000000) (hS:aP S w a n (ls.map strOf)) (hc:n≤c) (oP:n≤1000000):
  Calls Tryz.prog 73 #[ptr r, .slice a n c] w fun e w'=>e= .returned (.tuple #[.int .i64 (aC T ls).1, .string (strOf (aC T ls).2.1), .int .i64 (aC T ls).2.2])∧Below w.heap.size w w':=by
 have hln:ls.length=n:=by have:=hS.length;simpa using this
 unfold aC
 by_cases h0:ls=[]
 ·rw[if_pos h0]
  have hn:n=0:=by rw[←hln,h0];rfl
  subst hn
  clear h hT hS hE
  go_enter Tryz.func73,Tryz.ntmps73
  go_wp2
  go_ret3
  exact⟨rfl,Below.refl _ _⟩
 ·rw[if_neg h0]
  obtain⟨j,rfl⟩:∃j,n=j+1:=⟨n-1,by
   have:n≠0:=fun e=>h0 (List.eq_nil_of_length_eq_zero (by omega))
   omega⟩
  obtain⟨b,off,nm,rfl,_,hbw,hx,hsz,hcn⟩:=yP hS j (by omega)
  have hdl:(ls.map strOf).take j=ls.dropLast.map strOf:=by
   rw[List.dropLast_eq_take,hln,List.map_take];rfl
  have hnm:ls.getLastD []=nm:=by
   rw[List.getLastD_eq_getLast?,List.getLast?_eq_getElem?,hln,show j+1-1=j from rfl,hx];rfl
  have hT1:=hS.take j (by omega)
  rw[hdl]at hT1
  have lJ:=Lib.hid (rJ _ j c ls.dropLast w h hT hE hT1)
  have HH:=Lib.hid (fun w1 (hb:Below w.heap.size w w1) id=>jP id w1 (h.below hb (Nat.le_refl _)) hT.torz)
  have Uq:=Lib.hid (eF hT.w ls.dropLast 0 (dH hT.w))
  have e1:IntKind.i64.wrap (((j+1:Nat):Int)-1)=(j:Int):=by rw[show(((j+1:Nat):Int)-1)=(j:Int)by omega];exact IntWalk.i64_in _ (by omega)
  have e1':IntKind.i64.wrap ((j:Int)+1-1)=(j:Int):=by rw[show((j:Int)+1-1)=(j:Int)by omega];exact IntWalk.i64_in _ (by omega)
  have i0:(0:Int)≤j:=by omega
  have i1:(j:Int)<((j+1:Nat):Int):=by omega
  have Zd:(j:Int)<(j:Int)+1:=by omega
  have i2:(((j+1:Nat):Int)==0)=false:=by simp;omega
  have i2':((j:Int)+1==0)=false:=by simp;omega
  have hjc:j≤c:=by omega
  rw[hnm]
  clear h hT hE hS hx hsz hdl hnm hT1 hln h0
  obtain⟨⟨d,e0⟩,hq⟩:∃q,q=aA T 0 ls.dropLast:=⟨_,rfl⟩
  rw[←hq]at lJ Uq
  rw[←hq]
  clear hq
  simp only at lJ Uq
  simp only
  by_cases he:e0=0
  ·subst he
   obtain⟨x,hx⟩:=Option.isSome_iff_exists.1 (Uq.out rfl)
   have hnd:iD T d=iJ d x:=by unfold iD;rw[hx]
   have hkd:=aY hx
   have Ur:=Lib.hid (fun w1 hb=>HH.out w1 hb d)
   rw[hnd]at Ur
   unfold iJ at Ur
   rw[if_neg (by simp),hkd]
   clear hnd hkd HH hx Uq
   by_cases hk2:x.kind=2
   ·rw[if_pos hk2]
    rw[hk2]at Ur
    clear hk2
    go_enter Tryz.func73,Tryz.ntmps73
    go_wp2_with fail
    (with_reducible refine lJ.out.mono ?_)
    rintro e w1 ⟨rfl,hb1⟩
    have HB1:=Lib.hid hb1
    clear hb1
    go_wp2_with fail
    (with_reducible refine(Ur.out w1 HB1.out).mono ?_)
    rintro e w2 ⟨rfl,hb2⟩
    have HB2:=Lib.hid (HB1.out.trans (hb2.mono HB1.out.size))
    clear hb2
    have hs2:=HB2.out.size
    have hc2:w2.cell? ⟨b,off+j,none⟩=some (.string (strOf nm)):=by rw[HB2.out.cell (p:=⟨b,off+j,none⟩) hbw];exact hcn
    have hb2w:b<w2.heap.size:=by omega
    go_wp2_with fail
    go_quiet (fail)
    go_wp2_with fail
    go_ret3
    exact⟨rfl,HB2.out.trans ⟨rfl,rfl,rfl,by simp,fun x hx=>Below.heap_alloc _ _ _ (by omega)⟩⟩
   ·have e3:(x.kind==2)=false:=by simpa using hk2
    have e4:(x.kind !=2)=true:=by simpa using hk2
    rw[if_neg hk2]
    clear hk2
    go_enter Tryz.func73,Tryz.ntmps73
    go_wp2_with fail
    (with_reducible refine lJ.out.mono ?_)
    rintro e w1 ⟨rfl,hb1⟩
    have HB1:=Lib.hid hb1
    clear hb1
    go_wp2_with fail
    (with_reducible refine(Ur.out w1 HB1.out).mono ?_)
    rintro e w2 ⟨rfl,hb2⟩
    have HB2:=Lib.hid (HB1.out.trans (hb2.mono HB1.out.size))
    clear hb2
    go_wp2_with fail
    go_ret3
    exact⟨rfl,HB2.out.trans ((wall w2 _).mono HB2.out.size)⟩
  ·rw[if_pos he]
   have hne:(e0==0)=false:=by simpa using he
   have hne2:(e0 !=0)=true:=by simpa using he
   clear he HH Uq
   go_enter Tryz.func73,Tryz.ntmps73
   go_wp2_with fail
   (with_reducible refine lJ.out.mono ?_)
   rintro e w1 ⟨rfl,hb1⟩
   go_wp2_with fail
   go_ret3
   exact⟨rfl,hb1⟩
end
theorem eH {w:World} {base g:Nat} {e:TypeId} {k:Nat} (hg:w.heap[g]? =some (.cells #[] e)) (hb:base≤g):w.ownsRow base e k (.slice (some ⟨g,0,none⟩) 0 0) 0 []:=by
 refine⟨by simp, .inr ⟨g,0,#[],rfl,hb,hg,Nat.le_refl _,Nat.zero_le _,by simp,by simp⟩⟩
theorem aj.uL {w:World} {base:Nat} {e:TypeId} {k:Nat} {a:Option Addr} {m n c:Nat} {xs:List Value} (h:w.ownsRow base e k (.slice a m c) n xs) (hs:n*k≤maxLen):m=n∧n≤c∧Base a c∧aj (fun x=>base≤x∧x<w.heap.size) w a (n*k) xs:=by
 obtain⟨h1,h2⟩:=h
 rcases h2 with⟨h2,rfl⟩|⟨g,cap,cur,h2,hg,hcur,h3,h4,h5,h6⟩
 ·simp only[Value.slice.injEq]at h2
  obtain⟨rfl,rfl,rfl⟩:=h2
  have:xs=[]:=List.eq_nil_of_length_eq_zero (by omega)
  subst this
  rw[Nat.zero_mul]
  exact⟨rfl,Nat.le_refl _,Or.inl ⟨rfl,rfl⟩,aj.nil _ _ _⟩
 ·simp only[Value.slice.injEq]at h2
  obtain⟨rfl,rfl,rfl⟩:=h2
  have hgw:=(Array.getElem?_eq_some_iff.1 hcur).1
  refine⟨rfl,h3,Or.inr ⟨_,rfl⟩,h1,hs,fun h0=>⟨g,0,rfl,⟨hg,hgw⟩,hgw,fun i hi=> ?_⟩⟩
  simp only[World.cell?,hcur,Nat.zero_add]
  rw[←h6,List.getElem?_take,if_pos hi]
  simp
theorem lS {P:Program} {S:Nat→Prop} {w:World} (base:Nat) (t ty e:TypeId) (i:TypeInfo) (z:Value) (k bytes:Nat) (ht:P.underlying t=some (.slice e)) (hi:P.info? e=some i) (hz:i.zero=some z)
  (hsize:i.size=k) (hby:i.bytes=bytes) (hzs:z.cells.size=k) (hk:0<k) (v:Value) (n:Nat) (xs:List Value) (hown:w.ownsRow base e k v n xs)
  (A:Option Addr) (m c:Nat) (news:List Value) (hr:aj S w A (m*k) news) (h1:∀u∈news,u.oneCell'=true) (h63:n+m≤maxLen) (hbytes:(n+m)*bytes≤140737488355328) (hbase:base≤w.heap.size):
  ∃A' c' w',(Builtin.append_ #[t,t] ty #[v, .slice A m c]).run P w= .ok (.slice A' (n+m) c') w'∧w'.ownsRow base e k (.slice A' (n+m) c') (n+m) (xs++news)∧w.grownBy w' v.ownBlock∧
   ((Value.slice A' (n+m) c').ownBlock=v.ownBlock∨(Value.slice A' (n+m) c').ownBlock=some w.heap.size):=by
 rcases A with _|ad
 ·have hm:m=0:=by
   rcases Nat.eq_zero_or_pos m with h0|h0
   ·exact h0
   ·obtain⟨_,_,h,_⟩:=hr.at_ (Nat.mul_pos h0 hk)
    cases h
  subst hm
  have hn:news=[]:=List.eq_nil_of_length_eq_zero (by rw[hr.length];omega)
  subst hn
  obtain⟨A',c',rfl,_⟩:=gU hown
  refine⟨A',c',w,?_,by simpa using hown,⟨rfl,rfl,rfl,Nat.le_refl _,fun _ _ _=>rfl⟩,Or.inl rfl⟩
  rcases hown.2 with⟨h2,rfl⟩|⟨g,cap,cur,h2,_,_,hnc,_⟩
  ·simp only[Value.slice.injEq]at h2
   obtain⟨rfl,_,rfl⟩:=h2
   simp[Builtin.append_,run_underlying ht,sizeOf,typeInfo,hi,Builtin.lenOf,Builtin.firstCells]
  ·simp only[Value.slice.injEq]at h2
   obtain⟨rfl,_,rfl⟩:=h2
   simp[Builtin.append_,run_underlying ht,sizeOf,typeInfo,hi,Builtin.lenOf,Builtin.firstCells,hnc,storeCells]
 ·obtain⟨v',w',hr',h2,h3,h4,h5⟩:=run_append_own_at (P:=P) w base t ty e i z k bytes ht hi hz hsize hby hzs hk v n xs hown ad m c news hr.length hr.cells h1 h63 hbytes hbase
  obtain⟨A',c',rfl,_⟩:=gU h2
  exact⟨A',c',w',hr',h2,h3,h5⟩
theorem av {P:Program} {S:Nat→Prop} {ops:Array Oper} {o:Oper} {a:Act} {w:World} {K:Act→World→Prop} {Q:Exit→Act→World→Prop} {E:Prop} (hgd:o.guard=none) (s x:Operand) (t:TypeId)
  (ho:o.op= .call {callee:= .builtin .append,args:= #[s,x],argTypes:= #[t,t]})
  (base:Nat) (e:TypeId) (i:TypeInfo) (z:Value) (k bytes:Nat) (ht:P.underlying t=some (.slice e)) (hi:P.info? e=some i) (hz:i.zero=some z)
  (hsize:i.size=k) (hby:i.bytes=bytes) (hzs:z.cells.size=k) (hk:0<k) (v:Value) (n:Nat) (xs:List Value) (hs:a.eval s=v) (hown:w.ownsRow base e k v n xs)
  (A:Option Addr) (m c:Nat) (news:List Value) (hx:a.eval x= .slice A m c) (hr:aj S w A (m*k) news) (h1:∀u∈news,u.oneCell'=true) (h63:n+m≤maxLen) (hbytes:(n+m)*bytes≤140737488355328) (hbase:base≤w.heap.size)
  (h:∀A' c' w',w'.ownsRow base e k (.slice A' (n+m) c') (n+m) (xs++news)→Below base w w'→K (a.put o.dst (.slice A' (n+m) c')) w'):
  if Region.wanted o (yielded ops a.tmps)=true then Oper.wp P o a w K Q else E:=by
 have hw:Region.wanted o (yielded ops a.tmps)=true:=by simp[Region.wanted,hgd]
 rw[if_pos hw]
 obtain⟨A',c',w',hr,h2,h3,h4⟩:=lS (P:=P) base t o.type e i z k bytes ht hi hz hsize hby hzs hk v n xs hown A m c news hr h1 h63 hbytes hbase
 unfold Oper.wp execOp
 simp only[ho,resolve,invoke,builtin,Sem.run_bind,Sem.run_pure,Result.andThen_ok,List.map_toArray,List.map_cons,List.map_nil,hs,hx,hr]
 exact h A' c' w' h2 ⟨h3.os,h3.tape,h3.output,h3.size,fun b hb=>h3.block b (by omega) (fun e=>by have:=eu hown b e.symm;omega)⟩
theorem own_below {w w':World} {base:Nat} {e:TypeId} {k:Nat} {v:Value} {n:Nat} {xs:List Value} (h:w.ownsRow base e k v n xs) (hb:Below w.heap.size w w'):w'.ownsRow base e k v n xs:=by
 obtain⟨h1,h2⟩:=h
 refine⟨h1,?_⟩
 rcases h2 with h2|⟨g,cap,cur,h2,hg,hcur,h3⟩
 ·exact .inl h2
 ·exact .inr ⟨g,cap,cur,h2,hg,(hb.block g (Array.getElem?_eq_some_iff.1 hcur).1).trans hcur,h3⟩
theorem mW {α β:Type} (f:α→List β) (k:Nat) (hk:∀x,(f x).length=k):∀(L:List α) (i:Nat),(L.flatMap f).take (i*k)=(L.take i).flatMap f
 |[],i=>by simp
 |y::r,0=>by simp
 |y::r,i+1=>by
  rw[List.flatMap_cons,List.take_succ_cons,List.flatMap_cons,Nat.add_mul,Nat.one_mul,Nat.add_comm,←hk y,List.take_length_add_append,hk y,mW f k hk r i]
theorem mX {α β:Type} (f:α→List β) (k:Nat) (hk:∀x,(f x).length=k):∀(L:List α) (i:Nat),(L.flatMap f).drop (i*k)=(L.drop i).flatMap f
 |[],i=>by simp
 |y::r,0=>by simp
 |y::r,i+1=>by
  rw[List.flatMap_cons,List.drop_succ_cons,Nat.add_mul,Nat.one_mul,Nat.add_comm,←hk y,List.drop_length_add_append,hk y,mX f k hk r i]
theorem vU {α β:Type} (f:α→List β) (k:Nat) (hk:∀x,(f x).length=k) {j:Nat} {x x':α} {v:β} (hj:j<k) (hv:f x'=(f x).set j v):∀(L:List α) (i:Nat),L[i]? =some x→(L.flatMap f).set (i*k+j) v=(L.set i x').flatMap f
 |[],i,h=>by simp at h
 |y::r,0,h=>by
  simp only[List.getElem?_cons_zero,Option.some.injEq]at h
  subst h
  rw[List.flatMap_cons,Nat.zero_mul,Nat.zero_add,List.set_append_left _ _ (by rw[hk];exact hj),List.set_cons_zero,List.flatMap_cons,hv]
 |y::r,i+1,h=>by
  rw[List.flatMap_cons,List.set_append_right _ _ (by rw[hk,Nat.add_mul];omega),hk,show(i+1)*k+j-k=i*k+j by rw[Nat.add_mul];omega,vU f k hk hj hv r i (by simpa using h)]
  rfl
theorem lG (E:List iM):∀u∈E.flatMap dX,u.oneCell'=true:=by
 intro u hu
 obtain⟨e,_,he⟩:=List.mem_flatMap.1 hu
 simp only[dX,List.mem_cons,List.not_mem_nil,or_false]at he
 rcases he with rfl|rfl|rfl<;>rfl
theorem f_ (T:aF):∀u∈T.flatMap dx,u.oneCell'=true:=by
 intro u hu
 obtain⟨e,_,he⟩:=List.mem_flatMap.1 hu
 simp only[dx,List.mem_cons,List.not_mem_nil,or_false]at he
 rcases he with rfl|rfl|rfl|rfl|rfl|rfl<;>rfl
theorem Cy:(Tryz.prog.info? 103).map (fun i=>(i.zero,i.size,i.bytes))=some (some (.agg #[.int .i64 0, .string ⟨#[]⟩, .int .i64 0]),3,32):=by kernel_rfl
theorem nodeInfo:(Tryz.prog.info? 101).map (fun i=>(i.zero,i.size,i.bytes))=some (some (.agg #[.int .i64 0, .int .i64 0, .int .i64 0, .int .i64 0, .int .u64 0, .bool false]),6,48):=by kernel_rfl
theorem yT:(Tryz.prog.info? 23).map (fun i=>(i.zero,i.size,i.bytes))=some (some (.slice none 0 0),1,24):=by kernel_rfl
theorem aj.iG {S:Nat→Prop} {w:World} {b off len:Nat} {vs:List Value} (h:aj S w (some ⟨b,off,none⟩) len vs) {j:Nat} (hj:j<len) (v:Value):aj S (w.setCell ⟨b,off+j,none⟩ v) (some ⟨b,off,none⟩) len (vs.set j v):=by
 obtain⟨b',off',e,hS,hb,hc⟩:=h.at_ (by omega)
 simp only[Option.some.injEq,Addr.mk.injEq,and_true]at e
 obtain⟨rfl,rfl⟩:=e
 have hl:=h.length
 refine⟨by simpa using hl,h.small,fun _=>⟨b,off,rfl,hS,by rw[size_set];exact hb,fun i hi=> ?_⟩⟩
 by_cases hij:i=j
 ·subst hij
  have h1:=hc i hi
  rw[List.getElem?_eq_getElem (by omega)]at h1
  rw[World.cell?_setCell_same _ _ _ h1,List.getElem?_set_self (by omega)]
 ·rw[World.cell?_setCell_other _ _ _ _ (fun e=>by
   simp only[Addr.mk.injEq,and_true,true_and]at e
   omega),hc i hi,List.getElem?_set_ne (Ne.symm hij)]
theorem aj.apart {S:Nat→Prop} {w:World} {a:Option Addr} {len:Nat} {vs:List Value} (h:aj S w a len vs) (q:Addr) (v:Value) (hq:∀b,S b→b≠q.block):aj S (w.setCell q v) a len vs:=
 h.kept (by rw[size_set];exact Nat.le_refl _) fun b hb _=>bI _ _ _ _ (hq b hb)
theorem aj.frozen {w:World} {q:Addr} {cs:Array Value} {t:TypeId} (h:w.heap[q.block]? =some (.cells cs t (0,0))) (hq:q.spot=none):w.frozen? q=false:=by
 obtain⟨b,o,s⟩:=q
 simp only at hq h
 subst hq
 simp[World.frozen?,h]
def New (w w':World):Nat→Prop:=fun x=>w.heap.size≤x∧x<w'.heap.size
def Grow (F:Nat→Prop) (w w':World):Nat→Prop:=fun x=>F x∨(w.heap.size≤x∧x<w'.heap.size)
def dB (F:Nat→Prop) (w:World) (r:Nat) (T:aF) (D:List (List UInt8)) (E:List iM) (v:Value) (e:Ending) (w':World):Prop:=
 e= .returned v∧Keeps (fun x=>x=r) w w'∧fQ (Grow F w w') w' r T D E
abbrev bH (F:Nat→Prop) (w:World) (r:Nat) (T:aF) (v:Value) (e:Ending) (w':World):Prop:=dB F w r T (T.map fun q=>q.2.b) (aU T) v e w'
section
variable {F:Nat→Prop} {r:Nat} {T T':aF} {D D':List (List UInt8)} {E E':List iM} {w w' w2:World}
theorem fQ.mono {F':Nat→Prop} (h:fQ F w r T D E) (hs:∀b,F b→F' b) (hl:∀b,F' b→b<w.heap.size):fQ F' w r T D E:=by
 obtain⟨aN,cN,aD,cD,aE,cE,h1,h2,h3,h4,h8,h9,h10,h11⟩:=h.head
 have hk:∀b,Off F r b→b<w.heap.size→Off F' r b∧w.heap[b]? =w.heap[b]? :=fun b hb _=>⟨⟨hs b hb.1,hb.2⟩,rfl⟩
 exact⟨⟨aN,cN,aD,cD,aE,cE,h1,h2,h3,h4,h8.move (Nat.le_refl _) hk,h9.move (Nat.le_refl _) hk,h10.move (Nat.le_refl _) hk,h11⟩,hs _ h.own,hl⟩
theorem fQ.grow (h:fQ F w r T D E) (hb:Below w.heap.size w w'):fQ (Grow F w w') w' r T D E:=
 (h.below hb (Nat.le_refl _)).mono (fun b hb=> .inl hb) fun b hx=>by
  rcases hx with hx|hx
  ·have:=h.low b hx;have:=hb.size;omega
  ·exact hx.2
theorem dB.same {v:Value} (h:fQ F w r T D E) (hb:Below w.heap.size w w'):dB F w r T D E v (.returned v) w':=
 ⟨rfl,Keeps.mono (Keeps.below hb) (fun x hx hf=>by omega),h.grow hb⟩
theorem dB.trans {T2:aF} {D2:List (List UInt8)} {E2:List iM} {v v2:Value} {e e2:Ending} (hw:∀b,F b→b<w.heap.size) (h:dB F w r T' D' E' v e w') (k:dB (Grow F w w') w' r T2 D2 E2 v2 e2 w2):dB F w r T2 D2 E2 v2 e2 w2:=by
 refine⟨k.1,h.2.1.trans k.2.1 (fun x _ hx=>hx),k.2.2.mono (fun b hb=> ?_) fun b hx=> ?_⟩
 ·rcases hb with(hb|hb)|hb
  ·exact .inl hb
  ·exact .inr ⟨hb.1,Nat.lt_of_lt_of_le hb.2 k.2.1.size⟩
  ·exact .inr ⟨Nat.le_trans h.2.1.size hb.1,hb.2⟩
 ·rcases hx with hx|hx
  ·have:=hw b hx
   have:=h.2.1.size
   have:=k.2.1.size
   omega
  ·exact hx.2
theorem dB.behind {v:Value} {e:Ending} (hw:∀b,F b→b<w.heap.size) (hb:Below w.heap.size w w') (k:dB F w' r T D E v e w2):dB F w r T D E v e w2:=by
 refine⟨k.1,(Keeps.mono (Keeps.below hb) (fun x hx hf=>by omega)).trans k.2.1 (fun x _ hx=>hx),k.2.2.mono (fun b hx=> ?_) fun b hx=> ?_⟩
 ·rcases hx with hx|hx
  ·exact .inl hx
  ·exact .inr ⟨Nat.le_trans hb.size hx.1,hx.2⟩
 ·rcases hx with hx|hx
  ·have:=hw b hx
   have:=hb.size
   have:=k.2.1.size
   omega
  ·exact hx.2
theorem dB.then_ {v:Value} {e:Ending} (k:dB F w r T D E v e w') (hw:∀b,F b→b<w.heap.size) (hb:Below w'.heap.size w' w2):dB F w r T D E v e w2:=by
 have h1:=k.2.2.below hb (Nat.le_refl _)
 refine⟨k.1,k.2.1.trans (fp':=fun x=>w'.heap.size≤x) (Keeps.below hb) (fun x hx hf=>by have:=k.2.1.size;omega),h1.mono (fun b hx=> ?_) fun b hx=> ?_⟩
 ·rcases hx with hx|hx
  ·exact .inl hx
  ·exact .inr ⟨hx.1,Nat.lt_of_lt_of_le hx.2 hb.size⟩
 ·rcases hx with hx|hx
  ·have:=hw b hx
   have:=hb.size
   have:=k.2.1.size
   omega
  ·exact hx.2
theorem pE {a:Option Addr} {n:Nat} {vs:List Value} (hK:Keeps (fun x=>x=r) w w') (h:aj (Off F r) w a n vs):aj (Off (Grow F w w') r) w' a n vs:=
 h.move hK.size fun b hb hbw=>⟨⟨.inl hb.1,hb.2⟩,hK.block b hbw hb.2⟩
theorem xD {a:Option Addr} {n:Nat} {vs:List Value} (hr:r<w.heap.size) (h:aj (New w w') w' a n vs):aj (Off (Grow F w w') r) w' a n vs:=
 h.mono fun b hb=>⟨.inr hb,fun e=>by have:=hb.1;omega⟩
theorem Mx (hw:∀b,F b→b<w.heap.size) (hs:w.heap.size≤w'.heap.size):∀b,Grow F w w' b→b<w'.heap.size:=fun b hx=>by
 rcases hx with hx|hx
 ·have:=hw b hx;omega
 ·exact hx.2
theorem fQ.turn (h:fQ F w r T D E) (hK:Keeps (fun x=>x=r) w w') {aN aD aE:Option Addr} {cN cD cE:Nat} (hh:w'.heap[r]? =some (.cells #[.slice aN T'.length cN, .slice aD D'.length cD, .slice aE E'.length cE] 97 (0,0)))
  (h1:T'.length≤cN) (h2:D'.length≤cD) (h3:E'.length≤cE) (hN:aj (Off (Grow F w w') r) w' aN (T'.length*6) (T'.flatMap dx)) (hD:BytesAt (Off (Grow F w w') r) w' aD D') (hE:aj (Off (Grow F w w') r) w' aE (E'.length*3) (E'.flatMap dX)) (hB:Base aE cE):fQ (Grow F w w') w' r T' D' E':=
 ⟨⟨aN,cN,aD,cD,aE,cE,hh,h1,h2,h3,hN,hD,hE,hB⟩, .inl h.own,Mx h.low hK.size⟩
theorem fQ.names (h:fQ F w r T D E) (hl:T'.length=T.length) (hn:T'.flatMap dx=T.flatMap dx):fQ F w r T' D E:=by
 obtain⟨aN,cN,aD,cD,aE,cE,h1,h2,h3,h4,h8,h9,h10,h11⟩:=h.head
 exact⟨⟨aN,cN,aD,cD,aE,cE,by rw[hl];exact h1,by rw[hl];exact h2,h3,h4,by rw[hl,hn];exact h8,h9,h10,h11⟩,h.own,h.low⟩
end
def Plain (w:World) (a:Option Addr):Prop:=∀g off,a=some ⟨g,off,none⟩→∃cs t,w.heap[g]? =some (.cells cs t (0,0))
theorem Plain.kept {w w':World} {a:Option Addr} (h:Plain w a) (hk:∀g off,a=some ⟨g,off,none⟩→w'.heap[g]? =w.heap[g]?):Plain w' a:=fun g off e=>by
 obtain⟨cs,t,h1⟩:=h g off e
 exact⟨cs,t,(hk g off e).trans h1⟩
theorem Plain.iG {w:World} {a:Option Addr} (h:Plain w a) (q:Addr) (v:Value) (hq:q.spot=none):Plain (w.setCell q v) a:=fun g off e=>by
 obtain⟨cs,t,h1⟩:=h g off e
 obtain⟨b,o,sp⟩:=q
 simp only at hq
 subst hq
 by_cases hb:g=b
 ·subst hb
  exact⟨_,_,bX h1⟩
 ·exact⟨cs,t,(bI _ _ _ _ hb).trans h1⟩
theorem Plain.frozen {w:World} {g off:Nat} (h:Plain w (some ⟨g,off,none⟩)) (j:Nat):w.frozen? ⟨g,j,none⟩=false:=by
 obtain⟨cs,t,h1⟩:=h g off rfl
 simp[World.frozen?,h1]
theorem jR {w:World} {base:Nat} {e:TypeId} {k:Nat} {a:Option Addr} {m n c:Nat} {xs:List Value} (h:w.ownsRow base e k (.slice a m c) n xs):Plain w a:=fun g off he=>by
 subst he
 obtain⟨_,h2⟩:=h
 rcases h2 with⟨h2,_⟩|⟨g',cap,cur,h2,hg,hcur,_⟩
 ·cases h2
 ·simp only[Value.slice.injEq,Option.some.injEq,Addr.mk.injEq,and_true]at h2
  obtain⟨⟨rfl,_⟩,_⟩:=h2
  exact⟨_,_,hcur⟩
def bP (w:World) (r:Nat) (x1 x2:Value) (T:aF) (wx:World):Prop:=
 Keeps (fun x=>x=r) w wx∧r<w.heap.size∧∃a c,wx.heap[r]? =some (.cells #[.slice a T.length c,x1,x2] 97 (0,0))∧T.length≤c∧aj (New w wx) wx a (T.length*6) (T.flatMap dx)∧Plain wx a
theorem mh {w w1 w2:World} {e:TypeId} {k:Nat} {a:Option Addr} {m n c:Nat} {xs:List Value} (h:w2.ownsRow w1.heap.size e k (.slice a m c) n xs) (hs:n*k≤maxLen) (hw:w.heap.size≤w1.heap.size):m=n∧n≤c∧Base a c∧aj (New w w2) w2 a (n*k) xs:=by
 obtain⟨h1,h2,h3,h4⟩:=aj.uL h hs
 exact⟨h1,h2,h3,h4.mono fun b hb=>⟨by omega,hb.2⟩⟩
theorem yU {w w1:World} {r j:Nat} {v:Value} {a:Option Addr} {n:Nat} {vs:List Value} (hr:r<w.heap.size) (h:aj (New w w1) w1 a n vs):aj (New w (w1.setCell ⟨r,j,none⟩ v)) (w1.setCell ⟨r,j,none⟩ v) a n vs:=
 (h.apart ⟨r,j,none⟩ v fun b hb=>by
  show b≠r
  have:=hb.1
  omega).mono fun b hb=>⟨hb.1,by rw[size_set];exact hb.2⟩
theorem bP.RH {w w1:World} {r:Nat} {x0 x1 x2:Value} {T:aF} {a:Option Addr} {c:Nat} (hr:r<w.heap.size) (h1:w.heap[r]? =some (.cells #[x0,x1,x2] 97 (0,0))) (hb:Below w.heap.size w w1) (hc:T.length≤c) (hrow:aj (New w w1) w1 a (T.length*6) (T.flatMap dx)) (hp:Plain w1 a):bP w r x1 x2 T (w1.setCell ⟨r,0,none⟩ (.slice a T.length c)):=by
 refine⟨(Keeps.mono (Keeps.below hb) (fun x hx hf=>by omega)).trans (Keeps.iG _ _ _) fun x _ hx=>hx,hr,a,c,?_,hc,yU hr hrow,hp.iG _ _ rfl⟩
 rw[bX ((hb.block r hr).trans h1)]
 rfl
theorem bP.iG {w wx:World} {r:Nat} {x1 x2:Value} {T:aF} (h:bP w r x1 x2 T wx) {g off c:Nat} (hc:wx.cell? ⟨r,0,none⟩=some (.slice (some ⟨g,off,none⟩) T.length c)) {k j:Nat} {q q':Int×bA} {v:Value} (hq:T[k]? =some q) (hj:j<6) (hv:dx q'=(dx q).set j v):bP w r x1 x2 (T.set k q') (wx.setCell ⟨g,off+(k*6+j),none⟩ v):=by
 obtain⟨hK,hr,a,c',h1,h2,h3,hp⟩:=h
 have hc':wx.cell? ⟨r,0,none⟩=some (.slice a T.length c'):=by simp[World.cell?,h1]
 rw[hc']at hc
 simp only[Option.some.injEq,Value.slice.injEq,true_and]at hc
 obtain⟨rfl,rfl⟩:=hc
 have hk:k<T.length:=(List.getElem?_eq_some_iff.1 hq).1
 obtain⟨b,o,e,hF,hb,-,-⟩:=h3.wide fu rfl hq (by omega)
 simp only[Option.some.injEq,Addr.mk.injEq,and_true]at e
 obtain⟨rfl,rfl⟩:=e
 have hgr:g≠r:=fun e=>by have:=hF.1;omega
 refine⟨hK.trans (fp':=fun x=>x=g) (Keeps.iG wx ⟨g,off+(k*6+j),none⟩ v) (fun x hx hf=>by have:=hF.1;omega),hr,some ⟨g,off,none⟩,c',?_,by rw[List.length_set];exact h2,?_,?_⟩
 ·rw[bI _ _ _ _ (Ne.symm hgr),List.length_set];exact h1
 ·have h4:=h3.iG (j:=k*6+j) (by omega) v
  rw[vU dx 6 fu hj hv T k hq]at h4
  rw[List.length_set]
  exact h4.mono fun b hb=>⟨hb.1,by rw[size_set];exact hb.2⟩
 ·exact hp.iG _ _ rfl
theorem fQ.pF {F:Nat→Prop} {w wx:World} {r:Nat} {T T':aF} {D:List (List UInt8)} {E:List iM} {x0 x1 x2:Value} (h:fQ F w r T D E) (h1:w.heap[r]? =some (.cells #[x0,x1,x2] 97 (0,0))) (hm:bP w r x1 x2 T' wx) (v:Value):dB F w r T' D E v (.returned v) wx:=by
 obtain⟨hK,hr,a,c,h2,h3,h4,-⟩:=hm
 obtain⟨aN,cN,aD,cD,aE,cE,g1,-,g3,g4,-,g9,g10,g11⟩:=h.head
 rw[h1]at g1
 simp only[Option.some.injEq,Obj.cells.injEq,Array.mk.injEq,List.cons.injEq,and_true,true_and]at g1
 obtain⟨-,rfl,rfl⟩:=g1
 refine⟨rfl,hK,h.turn hK h2 h3 g3 g4 (xD hr h4) ?_ (pE hK g10) g11⟩
 exact g9.move hK.size fun b hb2 hbw=>⟨⟨.inl hb2.1,hb2.2⟩,hK.block b hbw hb2.2⟩
def Each (F:Nat→Prop) (w:World) (vs:List Value) (bs:List (List UInt8)):Prop:=∀(i:Nat) (b:List UInt8),bs[i]? =some b→∃(a:Option Addr) (c:Nat),vs[i]? =some (.slice a b.length c)∧lu b.length c∧aj F w a b.length (b.map bv)
theorem Each.cut {F:Nat→Prop} {w:World} {vs:List Value} {bs:List (List UInt8)} (h:Each F w vs bs) (hl:vs.length=bs.length) (k:Nat) (hk:k<bs.length):Each F w (vs.take k++vs.drop (k+1)) (bs.take k++bs.drop (k+1)):=by
 intro i b hb
 by_cases hi:i<k
 ·rw[List.getElem?_append_left (by rw[List.length_take];omega),List.getElem?_take,if_pos hi]at hb⊢
  exact h i b hb
 ·rw[List.getElem?_append_right (by rw[List.length_take];omega),List.length_take,List.getElem?_drop]at hb⊢
  rw[hl]
  exact h _ b hb
theorem Each.one {F:Nat→Prop} {w:World} {vs:List Value} {bs:List (List UInt8)} (h:Each F w vs bs) (hl:vs.length=bs.length):∀u∈vs,u.oneCell'=true:=by
 intro u hu
 obtain⟨i,hi,rfl⟩:=List.mem_iff_getElem.1 hu
 obtain⟨a,c,h1,-⟩:=h i bs[i] (List.getElem?_eq_getElem (by omega))
 rw[List.getElem?_eq_getElem hi]at h1
 simp only[Option.some.injEq]at h1
 rw[h1]
 rfl
theorem Each.move {F F':Nat→Prop} {w w':World} {vs:List Value} {bs:List (List UInt8)} (h:Each F w vs bs) (hs:w.heap.size≤w'.heap.size) (hk:∀b,F b→b<w.heap.size→F' b∧w'.heap[b]? =w.heap[b]?):Each F' w' vs bs:=by
 intro i b hb
 obtain⟨a,c,h3,h4,h5⟩:=h i b hb
 exact⟨a,c,h3,h4,h5.move hs hk⟩
theorem fQ.Bh {F:Nat→Prop} {w w1 w2:World} {r:Nat} {T T':aF} {D D':List (List UInt8)} {E:List iM} {x0 x1 x2:Value} (h:fQ F w r T D E) (h1:w.heap[r]? =some (.cells #[x0,x1,x2] 97 (0,0))) (hm:bP w r x1 x2 T' w1) (hb:Below w1.heap.size w1 w2) {a:Option Addr} {c:Nat} {vs:List Value} (hc:D'.length≤c) (hrow:aj (New w w2) w2 a D'.length vs) (he:Each (Off (Grow F w w2) r) w2 vs D') (v:Value):dB F w r T' D' E v (.returned v) (w2.setCell ⟨r,1,none⟩ (.slice a D'.length c)):=by
 obtain⟨hK,hr,aM,cM,h2,h3,h4,-⟩:=hm
 obtain⟨aN,cN,aD,cD,aE,cE,g1,-,g3,g4,-,g9,g10,g11⟩:=h.head
 rw[h1]at g1
 simp only[Option.some.injEq,Obj.cells.injEq,Array.mk.injEq,List.cons.injEq,and_true,true_and]at g1
 obtain⟨-,rfl,rfl⟩:=g1
 have hs1:=hK.size
 have hs2:=hb.size
 have hK2:Keeps (fun x=>x=r) w w2:=hK.trans (Keeps.below hb) (fun x hx hf=>by omega)
 have hK3:Keeps (fun x=>x=r) w (w2.setCell ⟨r,1,none⟩ (.slice a D'.length c)):=hK2.trans (Keeps.iG _ _ _) fun x _ hx=>hx
 have WV:aj (New w w2) w2 aM (T'.length*6) (T'.flatMap dx):=(h4.below hb (Nat.le_refl _)).mono fun b hb=>⟨hb.1,Nat.lt_of_lt_of_le hb.2 hs2⟩
 refine⟨rfl,hK3,h.turn hK3 ?_ h3 hc g4 (xD hr (yU hr WV)) ⟨vs,xD hr (yU hr hrow),?_⟩ (pE hK3 g10) g11⟩
 ·rw[bX ((hb.block r (by omega)).trans h2)]
  rfl
 ·exact he.move (by rw[size_set];exact Nat.le_refl _) fun b hb2 _=>⟨⟨hb2.1.imp id fun h=>⟨h.1,by rw[size_set];exact h.2⟩,hb2.2⟩,bI _ _ _ _ hb2.2⟩
theorem dN {P:Program} {S:Nat→Prop} {ops:Array Oper} {o:Oper} {a:Act} {w:World} {K:Act→World→Prop} {Q:Exit→Act→World→Prop} {E:Prop} (hgd:o.guard=none) (s x:Operand) (t:TypeId)
  (ho:o.op= .call {callee:= .builtin .append,args:= #[s,x],argTypes:= #[t,t]})
  (base:Nat) (e:TypeId) (i:TypeInfo) (z:Value) (k bytes:Nat) (ht:P.underlying t=some (.slice e)) (hi:P.info? e=some i) (hz:i.zero=some z)
  (hsize:i.size=k) (hby:i.bytes=bytes) (hzs:z.cells.size=k) (hk:0<k) (v:Value) (n:Nat) (xs:List Value) (hs:a.eval s=v) (hown:w.ownsRow base e k v n xs)
  (A:Option Addr) (m c:Nat) (news:List Value) (hx:a.eval x= .slice A m c) (hr:aj S w A (m*k) news) (h1:∀u∈news,u.oneCell'=true) (h63:n+m≤maxLen) (hbytes:(n+m)*bytes≤140737488355328) (hbase:base≤w.heap.size)
  (h:∀A' c' w',w'.ownsRow base e k (.slice A' (n+m) c') (n+m) (xs++news)→Below base w w'→w.grownBy w' v.ownBlock→K (a.put o.dst (.slice A' (n+m) c')) w'):
  if Region.wanted o (yielded ops a.tmps)=true then Oper.wp P o a w K Q else E:=by
 have hw:Region.wanted o (yielded ops a.tmps)=true:=by simp[Region.wanted,hgd]
 rw[if_pos hw]
 obtain⟨A',c',w',hr,h2,h3,h4⟩:=lS (P:=P) base t o.type e i z k bytes ht hi hz hsize hby hzs hk v n xs hown A m c news hr h1 h63 hbytes hbase
 unfold Oper.wp execOp
 simp only[ho,resolve,invoke,builtin,Sem.run_bind,Sem.run_pure,Result.andThen_ok,List.map_toArray,List.map_cons,List.map_nil,hs,hx,hr]
 exact h A' c' w' h2 ⟨h3.os,h3.tape,h3.output,h3.size,fun b hb=>h3.block b (by omega) (fun e=>by have:=eu hown b e.symm;omega)⟩ h3
theorem aj.grown {S:Nat→Prop} {w w':World} {ob:Option Nat} {a:Option Addr} {n:Nat} {vs:List Value} (h:aj S w a n vs) (hg:w.grownBy w' ob) (hn:∀b,S b→b<w.heap.size→ob≠some b):aj S w' a n vs:=
 h.kept hg.size fun b hb hbw=>hg.block b hbw (fun e=>hn b hb hbw e.symm)
theorem fA {P:Program} {S:Nat→Prop} {w:World} {ops:Array Oper} {rest:List Oper} {o:Oper} {a:Act} {Q:Exit→Act→World→Prop} (hgd:o.guard=none) (s x:Operand) (t:TypeId)
  (ho:o.op= .call {callee:= .builtin .append,args:= #[s,x],argTypes:= #[t,t]})
  (base:Nat) (e:TypeId) (i:TypeInfo) (z:Value) (k bytes:Nat) (ht:P.underlying t=some (.slice e)) (hi:P.info? e=some i) (hz:i.zero=some z)
  (hsize:i.size=k) (hby:i.bytes=bytes) (hzs:z.cells.size=k) (hk:0<k) (v:Value) (n:Nat) (xs:List Value) (hs:a.eval s=v) (hown:w.ownsRow base e k v n xs)
  (A:Option Addr) (m c:Nat) (news:List Value) (hx:a.eval x= .slice A m c) (hr:aj S w A (m*k) news) (h1:∀u∈news,u.oneCell'=true) (h63:n+m≤maxLen) (hbytes:(n+m)*bytes≤140737488355328) (hbase:base≤w.heap.size)
  (h:∀A' c' w',w'.ownsRow base e k (.slice A' (n+m) c') (n+m) (xs++news)→Below base w w'→wpList P ops Q rest (a.put o.dst (.slice A' (n+m) c')) w'):
  wpList P ops Q (o::rest) a w:=by
 refine wpList_plain hgd fun K hK=> ?_
 obtain⟨A',c',w',hr,h2,h3,h4⟩:=lS (P:=P) base t o.type e i z k bytes ht hi hz hsize hby hzs hk v n xs hown A m c news hr h1 h63 hbytes hbase
 unfold Oper.wp execOp
 simp only[ho,resolve,invoke,builtin,Sem.run_bind,Sem.run_pure,Result.andThen_ok,List.map_toArray,List.map_cons,List.map_nil,hs,hx,hr]
 exact hK _ _ (h A' c' w' h2 ⟨h3.os,h3.tape,h3.output,h3.size,fun b hb=>h3.block b (by omega) (fun e=>by have:=eu hown b e.symm;omega)⟩)
open Go
section
variable {P:Program} {ops:Array Oper} {Q:Exit→Act→World→Prop} {md:Region.Mode} {S:World→Prop} {last:Nat}
def wpAnyL (P:Program) (md:Region.Mode) (ops:Array Oper) (Q:Exit→Act→World→Prop) (S:World→Prop) (last:Nat):Nat→Array Bool→Act→World→Prop
 |0,listed,a,w=>Region.ready md ops listed=[]∧Q .normal a w
 |fuel+1,listed,a,w=>
  (Region.ready md ops listed=[]→Q .normal a w)∧
  ∀i∈Region.ready md ops listed,wpOp P ops Q i (fun a' w'=>(i≠last→S w')∧wpAnyL P md ops Q S last fuel (listed.setIfInBounds i true) a' w') a w
theorem yV:∀(fuel:Nat) (listed:Array Bool) (a:Act) (w:World),wpAnyL P md ops Q S last fuel listed a w→wpAny P md ops Q fuel listed a w
 |0,_,_,_,h=>h
 |fuel+1,_,_,_,h=>⟨h.1,fun i hi=>wpOp_mono (fun a' w' h'=>yV fuel _ a' w' h'.2) (h.2 i hi)⟩
def Closed (md:Region.Mode) (ops:Array Oper) (listed:Array Bool):Prop:=∀j o,ops[j]? =some o→listed.getD j false=true→∀e∈o.after,Region.binds md e=true→listed.getD e.on false=true
def reach (md:Region.Mode) (ops:Array Oper) (i:Nat):Nat→Nat→Bool
 |0,_=>false
 |f+1,j=>match ops[j]? with
  |none=>false
  |some o=>o.after.any fun e=>Region.binds md e&&(e.on==i||reach md ops i f e.on)
theorem yX {listed:Array Bool} {i:Nat} (h:listed.getD i true=false) (h1:listed.getD i false=true):False:=by
 rcases Nat.lt_or_ge i listed.size with h'|h'
 ·simp[h']at h h1;rw[h]at h1;cases h1
 ·simp[Array.getElem?_eq_none h']at h1
theorem Bj {listed:Array Bool} (hc:Closed md ops listed) {i:Nat} (hi:listed.getD i true=false):∀(f j:Nat),reach md ops i f j=true→j∉Region.ready md ops listed∧¬listed.getD j false=true
 |0,_,h=>by cases h
 |f+1,j,h=>by
  unfold reach at h
  cases ho:ops[j]? with
  |none=>rw[ho]at h;cases h
  |some o=>
   rw[ho]at h
   simp only[Array.any_eq_true']at h
   obtain⟨e,he,h2⟩:=h
   simp only[Bool.and_eq_true,Bool.or_eq_true,beq_iff_eq]at h2
   have key:¬listed.getD e.on false=true:=fun h3=>by
    rcases h2.2 with h4|h4
    ·rw[h4]at h3;exact yX hi h3
    ·exact(Bj hc hi f e.on h4).2 h3
   refine⟨fun hr=> ?_,fun hl=>key (hc j o ho hl e he h2.1)⟩
   obtain⟨_,o',ho',hall⟩:=mem_ready.1 hr
   rw[ho]at ho'
   cases ho'
   exact key (hall e he h2.1)
theorem Ed {listed:Array Bool} (hc:Closed md ops listed) {i:Nat} (hi:i∈Region.ready md ops listed):Closed md ops (listed.setIfInBounds i true):=by
 intro j o ho hl e he hb
 by_cases hji:i=j
 ·subst hji
  obtain⟨_,o',ho',hall⟩:=mem_ready.1 hi
  rw[ho]at ho'
  cases ho'
  exact getD_set_true (hall e he hb)
 ·rw[getD_set_ne false hji]at hl
  exact getD_set_true (hc j o ho hl e he hb)
theorem wpAnyL_first {i:Nat} {oi:Oper} {v:Value} (hi:ops[i]? =some oi) (hsel:∀(j:Nat) (o:Oper) cs b,ops[j]? =some o→o.op≠ .select cs b)
  (hQ:∀c a w,Q (.panic c) (a.put oi.dst v) w→Q (.panic c) a w) {f:Nat} (hre:reach md ops i f last=true):
  ∀(fuel:Nat) (listed:Array Bool) (a:Act) (w:World),Closed md ops listed→
   (∀j oj,ops[j]? =some oj→j≠i→listed.getD j true=false→(∀e∈oj.after,Region.binds md e=true→e.on≠i)→oi.apart ops oj=true)→
   i∈Region.ready md ops listed→YieldsIf P ops S oi v a→S w→
   wpAnyL P md ops Q S last fuel (listed.setIfInBounds i true) (a.put oi.dst v) w→wpAnyL P md ops Q S last (fuel+1) listed a w:=by
 intro fuel
 induction fuel with
 |zero=>
  intro listed a w _ _ hr hy hS H
  refine⟨fun h=>(by rw[h]at hr;cases hr),fun j hj=> ?_⟩
  by_cases hji:j=i
  ·subst hji;exact hy.wpOp hi hS ⟨fun _=>hS,H⟩
  ·have:=ready_mono hj hji
   rw[H.1]at this
   cases this
 |succ fuel ih=>
  intro listed a w hcl hfree hr hy hS H
  refine⟨fun h=>(by rw[h]at hr;cases hr),fun j hj=> ?_⟩
  by_cases hji:j=i
  ·subst hji;exact hy.wpOp hi hS ⟨fun _=>hS,H⟩
  ·have hjl:j≠last:=fun e=>(Bj hcl (mem_ready.1 hr).1 f last hre).1 (e▸hj)
   have h1:=H.2 j (ready_mono hj hji)
   obtain⟨hjun,oj,hoj,hall⟩:=mem_ready.1 hj
   have hnot:∀e∈oj.after,Region.binds md e=true→e.on≠i:=fun e he hb heq=>by
    have h1:=hall e he hb
    rw[heq]at h1
    exact yX (mem_ready.1 hr).1 h1
   have h2:=wpOp_putIf hoj (hfree j oj hoj hji hjun hnot) (fun cs b=>hsel i oi cs b hi) (fun cs b=>hsel j oj cs b hoj) hQ hy h1
   have hfree':∀k ok,ops[k]? =some ok→k≠i→(listed.setIfInBounds j true).getD k true=false→
     (∀e∈ok.after,Region.binds md e=true→e.on≠i)→oi.apart ops ok=true:=fun k ok hk hki hun hno=>by
    refine hfree k ok hk hki ?_ hno
    by_cases hjk:j=k
    ·subst hjk;exact hjun
    ·rw[getD_set_ne true hjk]at hun;exact hun
   refine wpOp_mono (fun a' w' h3=>⟨fun _=>h3.2.1 hjl,ih (listed.setIfInBounds j true) a' w' (Ed hcl hj) hfree' (ready_mono hr (Ne.symm hji)) h3.1 (h3.2.1 hjl) ?_⟩) h2
   rw[Array.setIfInBounds_comm _ _ hji]
   exact h3.2.2
def xE (md:Region.Mode) (ops:Array Oper) (listed:Array Bool):Bool:=
 (List.range ops.size).all fun j=> !listed.getD j false||match ops[j]? with
  |none=>true
  |some o=>o.after.all fun e=> !Region.binds md e||listed.getD e.on false
theorem JD {listed:Array Bool} (h:xE md ops listed=true):Closed md ops listed:=by
 intro j o ho hl e he hb
 have hj:j<ops.size:=(Array.getElem?_eq_some_iff.1 ho).1
 unfold xE at h
 rw[List.all_eq_true]at h
 have h1:=h j (List.mem_range.2 hj)
 rw[hl,ho]at h1
 simp only[Bool.not_true,Bool.false_or,Array.all_eq_true']at h1
 have h2:=h1 e he
 rw[hb]at h2
 simpa using h2
theorem Ee {i:Nat} {oi:Oper} {v:Value} {fuel:Nat} {listed:Array Bool} {a:Act} {w:World} (hi:ops[i]? =some oi)
  (hs:Region.noSelect ops=true) (hf:Region.free md ops listed i=true) (hr:(Region.ready md ops listed).contains i=true) (hcl:xE md ops listed=true) (hre:reach md ops i ops.size last=true)
  (hQ:∀c a w,Q (.panic c) (a.put oi.dst v) w→Q (.panic c) a w) (hy:YieldsIf P ops S oi v a) (hS:S w)
  (h:wpAnyL P md ops Q S last fuel (listed.setIfInBounds i true) (a.put oi.dst v) w):wpAnyL P md ops Q S last (fuel+1) listed a w:=
 wpAnyL_first hi (Region.noSelect_spec hs) hQ hre fuel listed a w (JD hcl) (Region.free_spec hi hf) (by simpa using hr) hy hS h
theorem Ef {listed:Array Bool} {a:Act} {w:World} (hr:Region.ready md ops listed=[]) (h:Q .normal a w):
  ∀fuel,wpAnyL P md ops Q S last fuel listed a w
 |0=>⟨hr,h⟩
 |_+1=>⟨fun _=>h,by rw[hr];simp⟩
def iy (P:Program) (md:Region.Mode) (ops:Array Oper) (Q:Exit→Act→World→Prop) (S:World→Prop) (last:Nat) (fuel:Nat) (listed:Array Bool) (a:Act) (w:World) (rs:List Nat):Prop:=
 ∀i∈rs,wpOp P ops Q i (fun a' w'=>(i≠last→S w')∧wpAnyL P md ops Q S last fuel (listed.setIfInBounds i true) a' w') a w
theorem iy.nil {fuel:Nat} {listed:Array Bool} {a:Act} {w:World}:iy P md ops Q S last fuel listed a w []:=fun _ h=>by cases h
theorem iy.cons {fuel:Nat} {listed:Array Bool} {a:Act} {w:World} {i:Nat} {o:Oper} {rs:List Nat} (ho:ops[i]? =some o)
  (h:∀K':Act→World→Prop,Shut (∀a w,(i≠last→S w)→((i≠last→S w)→wpAnyL P md ops Q S last fuel (listed.setIfInBounds i true) a w)→K' a w)→if Region.wanted o (yielded ops a.tmps)=true then Oper.wp P o a w K' Q else K' (a.put o.dst undef) w)
  (hs:iy P md ops Q S last fuel listed a w rs):iy P md ops Q S last fuel listed a w (i::rs):=fun j hj=>by
 rcases List.mem_cons.1 hj with rfl|hj
 ·exact wpOp_step ho (fun K' hK=>h K' (fun a w hS hW=>hK a w ⟨hS,hW hS⟩))
 ·exact hs j hj
theorem uM {rs:List Nat} {fuel:Nat} {listed:Array Bool} {a:Act} {w:World} (hr:Region.ready md ops listed=rs) (hne:rs≠[])
  (h:iy P md ops Q S last fuel listed a w rs):wpAnyL P md ops Q S last (fuel+1) listed a w:=⟨fun h0=>absurd (hr▸h0) hne,hr▸h⟩
theorem Eh {id:Nat} {a:Act} {w:World} (hm:P.follows .mixedOrders=true) (hS:S w.drew)
  (h:S w.drew→wpAnyL P .any ops Q S last ops.size (Array.replicate ops.size false) a w.drew):(Code.region id ops true).wp P Q a w:=
 wp_region_any hm (yV _ _ _ _ (h hS))
theorem bU (i:Nat) {oi:Oper} {v:Value} {fuel:Nat} {listed l':Array Bool} {a a':Act} {w:World}
  (hS:S w) (h:wpAnyL P md ops Q S last fuel l' a' w)
  (hi:ops[i]? =some oi:=by simp only[List.getElem?_toArray,List.getElem?_cons_succ,List.getElem?_cons_zero];rfl)
  (hs:Region.noSelect ops=true:=by kernel_rfl) (hf:Region.free md ops listed i=true:=by kernel_rfl) (hr:(Region.ready md ops listed).contains i=true:=by kernel_rfl) (hcl:xE md ops listed=true:=by kernel_rfl) (hre:reach md ops i ops.size last=true:=by kernel_rfl)
  (hQ:∀c a w,Q (.panic c) (a.put oi.dst v) w→Q (.panic c) a w:=by exact fun _ _ _ h=>h)
  (hw:Region.wanted oi (yielded ops a.tmps)=true:=by rfl)
  (hy:∀w,S w→(execOp a.eval oi).run P w= .ok (.value v) w:=by intro w hSw;(try dsimp only at hSw);go_simp;(try with_reducible rfl))
  (hl:listed.setIfInBounds i true=l':=by(try simp only[List.setIfInBounds_toArray,List.set_cons_zero,List.set_cons_succ]);rfl)
  (ha:a.put oi.dst v=a':=by(try simp only[Act.put,List.setIfInBounds_toArray,List.set_cons_zero,List.set_cons_succ]);rfl)
  :wpAnyL P md ops Q S last (fuel+1) listed a w:=
 Ee hi hs hf hr hcl hre hQ (Or.inl ⟨hw,hy⟩) hS (by rw[hl,ha];exact h)
theorem iO (i:Nat) {o:Oper} {fuel:Nat} {listed:Array Bool} {a:Act} {w:World}
  (h:∀K':Act→World→Prop,Shut (∀a w,(i≠last→S w)→((i≠last→S w)→wpAnyL P md ops Q S last fuel (listed.setIfInBounds i true) a w)→K' a w)→if Region.wanted o (yielded ops a.tmps)=true then Oper.wp P o a w K' Q else K' (a.put o.dst undef) w)
  (ho:ops[i]? =some o:=by simp only[List.getElem?_toArray,List.getElem?_cons_succ,List.getElem?_cons_zero];rfl) (hr:Region.ready md ops listed=[i]:=by kernel_rfl):wpAnyL P md ops Q S last (fuel+1) listed a w:=
 uM hr (by simp) (iy.cons ho h iy.nil)
theorem Ei (i j:Nat) {o1 o2:Oper} {fuel:Nat} {listed:Array Bool} {a:Act} {w:World}
  (h1:∀K':Act→World→Prop,Shut (∀a w,(i≠last→S w)→((i≠last→S w)→wpAnyL P md ops Q S last fuel (listed.setIfInBounds i true) a w)→K' a w)→if Region.wanted o1 (yielded ops a.tmps)=true then Oper.wp P o1 a w K' Q else K' (a.put o1.dst undef) w)
  (h2:∀K':Act→World→Prop,Shut (∀a w,(j≠last→S w)→((j≠last→S w)→wpAnyL P md ops Q S last fuel (listed.setIfInBounds j true) a w)→K' a w)→if Region.wanted o2 (yielded ops a.tmps)=true then Oper.wp P o2 a w K' Q else K' (a.put o2.dst undef) w)
  (ho1:ops[i]? =some o1:=by simp only[List.getElem?_toArray,List.getElem?_cons_succ,List.getElem?_cons_zero];rfl) (ho2:ops[j]? =some o2:=by simp only[List.getElem?_toArray,List.getElem?_cons_succ,List.getElem?_cons_zero];rfl) (hr:Region.ready md ops listed=[i,j]:=by kernel_rfl):wpAnyL P md ops Q S last (fuel+1) listed a w:=
 uM hr (by simp) (iy.cons ho1 h1 (iy.cons ho2 h2 iy.nil))
theorem iX {i:Nat} {fuel:Nat} {listed l':Array Bool} {a a':Act} {w:World} {K:Act→World→Prop}
  (hK:Shut (∀a w,(i≠last→S w)→((i≠last→S w)→wpAnyL P md ops Q S last fuel (listed.setIfInBounds i true) a w)→K a w)) (hS:S w) (h:S w→wpAnyL P md ops Q S last fuel l' a' w)
  (hl:listed.setIfInBounds i true=l':=by(try simp only[List.setIfInBounds_toArray,List.set_cons_zero,List.set_cons_succ]);rfl)
  (ha:a=a':=by(try simp only[Act.put,List.setIfInBounds_toArray,List.set_cons_zero,List.set_cons_succ]);rfl):K a w:=by
 subst hl ha
 exact hK a w (fun _=>hS) fun _=>h hS
theorem Bl {i:Nat} {fuel:Nat} {listed:Array Bool} {a a':Act} {w:World} {K:Act→World→Prop}
  (hK:Shut (∀a w,(i≠last→S w)→((i≠last→S w)→wpAnyL P md ops (NoPanic Q) S last fuel (listed.setIfInBounds i true) a w)→K a w)) (h:Q .normal a' w)
  (hi:i=last:=by rfl) (hr:Region.ready md ops (listed.setIfInBounds i true)=[]:=by kernel_rfl)
  (ha:a=a':=by(try simp only[Act.put,List.setIfInBounds_toArray,List.set_cons_zero,List.set_cons_succ]);rfl):K a w:=by
 subst ha
 exact hK a w (fun h0=>absurd hi h0) fun _=>Ef hr (NoPanic.normal h) _
theorem KN (last:Nat) (S:World→Prop) {id:Nat} {a:Act} {w:World} (hS:S w.drew)
  (h:S w.drew→wpAnyL P .any ops (NoPanic Q) S last ops.size (Array.replicate ops.size false) a w.drew) (hm:P.follows .mixedOrders=true:=by kernel_rfl):(Code.region id ops true).wp P Q a w:=
 wp_region_noPanic (Eh hm hS h)
end
def yY (w:World) (r:Nat) (E:List iM) (e:Ending) (w':World):Prop:=
 e= .returned (.tuple #[])∧∃a c w1,Below w.heap.size w w1∧w'=w1.setCell ⟨r,2,none⟩ (.slice a E.length c)∧E.length≤c∧Base a c∧aj (fun x=>w.heap.size≤x∧x<w1.heap.size) w1 a (E.length*3) (E.flatMap dX)
theorem yZ {F:Nat→Prop} {w w':World} {r:Nat} {T:aF} {D:List (List UInt8)} {E E':List iM} {e:Ending} (h:fQ F w r T D E) (hs:yY w r E' e w'):dB F w r T D E' (.tuple #[]) e w':=by
 obtain⟨rfl,a,c,w1,hb,rfl,hc,hz,hrow⟩:=hs
 obtain⟨aN,cN,aD,cD,aE,cE,h1,h2,h3,h4,h8,h9,h10,h11⟩:=h.head
 have hr:=h.low r h.own
 have hK:Keeps (fun x=>x=r) w (w1.setCell ⟨r,2,none⟩ (.slice a E'.length c)):=(Keeps.mono (Keeps.below hb) (fun x hx hf=>by omega)).trans (Keeps.iG _ _ _) fun x _ hx=>hx
 refine⟨rfl,hK,h.turn (aD:=aD) hK ?_ h2 h3 hc (pE hK h8) ?_ (xD hr ?_) hz⟩
 ·rw[bX ((hb.block r hr).trans h1)]
  rfl
 ·exact h9.move hK.size fun b hb2 hbw=>⟨⟨.inl hb2.1,hb2.2⟩,hK.block b hbw hb2.2⟩
 ·refine(hrow.apart ⟨r,2,none⟩ _ fun b hb2=> ?_).mono fun b hb2=>⟨hb2.1,by rw[size_set];exact hb2.2⟩
  show b≠r
  have:=hb2.1
  omega
section
variable {F:Nat→Prop} {r:Nat} {T:aF} {D:List (List UInt8)} {E:List iM}
set_option maxHeartbeats 2000000 in
theorem MB (k:Nat) (w:World) (E:List iM) (b off n cE:Nat) (hc2:w.cell? ⟨r,2,none⟩=some (.slice (some ⟨b,off,none⟩) n cE)) (hrw:r<w.heap.size) (hfr:w.frozen? ⟨r,2,none⟩=false) (hn:E.length=n) (hcap:n≤cE) (Us:n≤1000000) (hrow:aj F w (some ⟨b,off,none⟩) (n*3) (E.flatMap dX)) (hk:k<n):
  Calls Tryz.prog 85 #[ptr r, .int .i64 k] w (yY w r (E.take k++E.drop (k+1))):=by
 obtain⟨i,hi,hz,h3,h32⟩:=info_parts Cy
 have HI:=Lib.hid (And.intro hi (And.intro hz (And.intro h3 h32)))
 have rT:Hid (∀w1,Below w.heap.size w w1→aj F w1 (some ⟨b,off,none⟩) (k*3) ((E.take k).flatMap dX)∧aj F w1 (if cE=k+1 then some ⟨b,off,none⟩else some ⟨b,off+(k+1)*3,none⟩) ((n-(k+1))*3) ((E.drop (k+1)).flatMap dX)):=fun w1 hb=>by
  have h1:=hrow.below hb (Nat.le_refl _)
  have h2:=h1.take (k*3)
  rw[mW dX 3 iw,Nat.min_eq_right (by omega)]at h2
  have h4:=h1.drop ((k+1)*3)
  rw[mX dX 3 iw,←Nat.sub_mul]at h4
  refine⟨h2,?_⟩
  by_cases hce:cE=k+1
  ·rw[if_pos hce]
   exact aj.zero _ _ _ (by rw[show n-(k+1)=0 by omega,Nat.zero_mul]) (by rw[List.drop_of_length_le (by omega)];rfl)
  ·rw[if_neg hce];exact h4
 have i0:(0:Int)≤k:=by omega
 have i1:(k:Int)≤cE:=by omega
 have i2:(k:Int)+1≤n:=by omega
 have i3:(0:Int)≤(k:Int)+1:=by omega
 have i4:(n:Int)≤cE:=by omega
 have e1:IntKind.i64.wrap ((k:Int)+1)=(k:Int)+1:=IntWalk.i64_in _ (by omega)
 have hlt:(E.take k++E.drop (k+1)).length=k+(n-(k+1)):=by simp;omega
 have AJ:=Lib.hid hlt
 have kV:Hid (∀w1,Below w.heap.size w w1→w1.cell? ⟨r,2,none⟩=some (.slice (some ⟨b,off,none⟩) n cE)∧w1.frozen? ⟨r,2,none⟩=false):=fun w1 hb=>⟨by rw[hb.cell (p:=⟨r,2,none⟩) hrw];exact hc2,by rw[hb.frozen (p:=⟨r,2,none⟩) hrw];exact hfr⟩
 clear hi hz h3 h32 hrow hlt
 go_enter Tryz.func85,Tryz.ntmps85
 go_wp2
 refine KN 19 ((fun w'=>w'.cell? ⟨r,2,none⟩=some (.slice (some ⟨b,off,none⟩) n cE)∧w'.frozen? ⟨r,2,none⟩=false)) ?_ fun hS=> ?_
 ·exact kV.out _ (Below.refl _ _).drew
 refine bU 0 hS ?_
 refine bU 2 hS ?_
 refine bU 3 hS ?_
 refine bU 4 hS ?_
 refine bU 5 hS ?_
 refine bU 6 hS ?_
 refine bU 7 hS ?_
 refine bU 9 hS ?_
 refine bU 10 hS ?_
 refine bU 11 hS ?_
 refine bU 12 hS ?_
 refine bU 13 hS ?_
 refine bU 14 hS ?_
 refine bU 15 hS ?_
 refine iO 1 fun K hK=> ?_
 go_simp
 refine iX hK (kV.out _ ((Below.refl _ _).drew.alloc (Nat.le_refl _) _)) fun hS=> ?_
 clear hK K
 refine iO 8 fun K hK=> ?_
 refine av (by rfl) (.tmp 5) (.tmp 11) 95 (by rfl) w.heap.size 103 i _ 3 32 Tryz.underlying95 HI.out.1 HI.out.2.1 HI.out.2.2.1 HI.out.2.2.2 rfl (by omega) _ 0 [] (by rfl) (eH (MapKept.heap_alloc w.drew _).1 (Nat.le_refl _)) _ k _ ((E.take k).flatMap dX) (by rfl) (rT.out _ ((Below.refl _ _).drew.alloc (Nat.le_refl _) _)).1 (lG _) (by unfold maxLen;omega) (by omega) (by simp) ?_
 intro A1 c1 w1 hown1 hb1
 have hB1:Below w.heap.size w w1:=((Below.refl _ _).drew.alloc (Nat.le_refl _) _).trans hb1
 refine iX hK (kV.out _ hB1) fun hS=> ?_
 clear hK K
 refine iO 16 fun K hK=> ?_
 refine av (by rfl) (.tmp 12) (.tmp 19) 95 (by rfl) w.heap.size 103 i _ 3 32 Tryz.underlying95 HI.out.1 HI.out.2.1 HI.out.2.2.1 HI.out.2.2.2 rfl (by omega) _ _ _ (by rfl) hown1 _ (n-(k+1)) _ ((E.drop (k+1)).flatMap dX) (by rfl) (rT.out _ hB1).2 (lG _) (by unfold maxLen;omega) (by omega) hB1.size ?_
 intro A2 c2 w2 hown2 hb2
 have hB2:Below w.heap.size w w2:=hB1.trans hb2
 refine iX hK (kV.out _ hB2) fun hS=> ?_
 clear hK K
 refine bU 17 hS ?_
 refine bU 18 hS ?_
 refine iO 19 fun K hK=> ?_
 go_simp
 refine Bl hK ?_
 clear hS hK K
 go_wp2
 all_goals (
  go_end0
  have hl:=AJ.out
  have e5:0+k+(n-(k+1))=(E.take k++E.drop (k+1)).length:=by omega
  obtain⟨-,hcc,hnz,hrow2⟩:=aj.uL hown2 (by unfold maxLen;omega)
  rw[List.nil_append,←List.flatMap_append,e5]at hrow2
  rw[e5]at hcc
  refine⟨rfl,A2,c2,w2,hB2,?_,hcc,hnz,hrow2⟩
  rw[hl])
theorem Ik (k:Nat) (w:World) (h:fQ F w r T D E) (hk:k<E.length) (Us:E.length≤1000000):
  Calls Tryz.prog 85 #[ptr r, .int .i64 k] w (dB F w r T D (E.take k++E.drop (k+1)) (.tuple #[])):=by
 obtain⟨aN,cN,aD,cD,aE,cE,h1,h2,h3,h4,h8,h9,h10,h11⟩:=h.head
 obtain⟨b,off,rfl,hF,hb,hi,hc⟩:=h10.wide iw rfl (List.getElem?_eq_getElem hk) (by omega)
 exact(MB k w E b off E.length cE (by simp[World.cell?,h1]) (h.low r h.own) (aj.frozen h1 rfl) rfl h4 Us h10 hk).mono fun e w' hs=>yZ h hs
end
end Go.Proofs.YtjnhnlabpccgjaaGreat
