/- The reference: Look, place, file, rights. Rows whose elements have more than one cell: append. The reference in memory: what is turned, part by part. -/
import Derived.Test.YtohpcppeajijnaaGreatM26
namespace Go.Proofs.YtohpcppeajijnaaGreat
open Go.ChangeShapes Go.WideShapes Go.ChangeAt Go.RowKit
set_option linter.unusedVariables false
set_option linter.unusedSimpArgs false
section
variable {F:Nat→Prop} {r:Nat} {T:aI}
theorem FX {S:Nat→Prop} (a:Option Addr) (n c:Nat) (ls:List Nm) (w:World) (h:jr F w r T) (hT:dR T) (hE:(aQ T).length≤1000000) (hS:aW S w a n (ls.map strOf)):
  Calls Tryz.prog 67 #[ptr r, .slice a n c] w fun e w'=>e= .returned (.tuple #[.int .i64 (kG T ls).1, .int .i64 (kG T ls).2])∧Below w.heap.size w w':=by
 have H1:=Lib.hid (wh a n c ls w hS)
 have H2:=Lib.hid (fun w1 (hb:Below w.heap.size w w1)=>yC a n c ls w1 (h.below hb (Nat.le_refl _)) hT hE (hS.below hb (Nat.le_refl _)))
 clear hS h hT hE
 unfold kG
 by_cases h0:bV ls=0
 ·rw[h0]at H1
  rw[if_neg (by rw[h0];simp)]
  clear h0
  go_enter Tryz.func67,Tryz.ntmps67
  go_wp2_with fail
  (with_reducible refine H1.out.mono ?_)
  rintro e w1 ⟨rfl,hb1⟩
  have HB1:=Lib.hid hb1
  clear hb1
  go_wp2_with fail
  (with_reducible refine(H2.out w1 HB1.out).mono ?_)
  rintro e w2 ⟨rfl,hb2⟩
  go_wp2_with fail
  go_ret2
  exact⟨rfl,HB1.out.trans (hb2.mono HB1.out.size)⟩
 ·rw[if_pos h0]
  have hne:(bV ls==0)=false:=by simpa using h0
  have hne2:(bV ls !=0)=true:=by simpa using h0
  clear h0
  go_enter Tryz.func67,Tryz.ntmps67
  go_wp2_with fail
  (with_reducible refine H1.out.mono ?_)
  rintro e w1 ⟨rfl,hb1⟩
  go_wp2_with fail
  go_ret2
  exact⟨rfl,hb1⟩
def FY (T:aI) (id:Int):Int:=if cK T id=0 then mI (lQ id) T else 0
set_option maxHeartbeats 1000000 in
theorem sS (id:Int) (w:World) (h:jr F w r T) (hT:uK T):Calls Tryz.prog 78 #[ptr r, .int .i64 id] w fun e w'=>e= .returned (.tuple #[.int .i64 (FY T id), .int .i64 (cK T id)])∧w=w':=by
 have HR:=Lib.hid (pJ id w h hT.len)
 have hr0:=h.low r h.own
 cases hx:aF id T with
 |none=>
  have e1:cK T id=20:=by unfold cK;rw[hx]
  have e2:FY T id=0:=by unfold FY;simp only[e1];rfl
  rw[rH hx]at HR
  rw[e1,e2]
  clear h hx hT e1 e2
  go_enter Tryz.func78,Tryz.ntmps78
  go_wp2_with fail
  (with_reducible refine HR.out.mono ?_)
  rintro e w1 ⟨rfl,rfl⟩
  go_wp2_with fail
  go_ret2
  exact⟨rfl,rfl⟩
 |some x=>
  obtain⟨k,hk,hq⟩:=jw hT.sorted hx
  rw[hk]at HR
  obtain⟨b,off,c,hc0,hF,hb,hkl,c0,c1,c2,c3,c4,c5⟩:=h.node hq
  have i0:(0:Int)≤k:=by omega
  have i1:(k:Int)<T.length:=by omega
  have i2:¬(k:Int)<0:=by omega
  simp only at c0 c1 c2 c3 c4 c5
  by_cases hk2:x.kind=2
  ·have e1:cK T id=22:=by unfold cK;rw[hx];exact if_pos hk2
   have e2:FY T id=0:=by unfold FY;simp only[e1];rfl
   rw[e1,e2]
   rw[hk2]at c1
   clear hk2 e1 e2 h hx hk hq hT
   go_enter Tryz.func78,Tryz.ntmps78
   go_wp2_with fail
   (with_reducible refine HR.out.mono ?_)
   rintro e w1 ⟨rfl,rfl⟩
   go_wp2_with fail
   go_ret2
   exact⟨rfl,rfl⟩
  ·have e1:cK T id=0:=by unfold cK;rw[hx];exact if_neg hk2
   have e2:FY T id=k:=by unfold FY;simp only[e1];exact hk
   rw[e1,e2]
   have e3:(x.kind==2)=false:=by simpa using hk2
   clear hk2 e1 e2 h hx hk hq hT
   go_enter Tryz.func78,Tryz.ntmps78
   go_wp2_with fail
   (with_reducible refine HR.out.mono ?_)
   rintro e w1 ⟨rfl,rfl⟩
   go_wp2_with fail
   go_ret2
   exact⟨rfl,rfl⟩
set_option maxHeartbeats 2000000 in
theorem wE {S:Nat→Prop} (a:Option Addr) (n c:Nat) (ls:List Nm) (w:World) (h:jr F w r T) (hT:dR T) (hE:(aQ T).length≤1000000) (hS:aW S w a n (ls.map strOf)) (hc:n≤c) (pE:n≤1000000):
  Calls Tryz.prog 62 #[ptr r, .slice a n c] w fun e w'=>e= .returned (.tuple #[.int .i64 (aV T ls).1, .string (strOf (aV T ls).2.1), .int .i64 (aV T ls).2.2])∧Below w.heap.size w w':=by
 have hln:ls.length=n:=by have:=hS.length;simpa using this
 unfold aV
 by_cases h0:ls=[]
 ·rw[if_pos h0]
  have hn:n=0:=by rw[←hln,h0];rfl
  subst hn
  clear h hT hS hE
  go_enter Tryz.func62,Tryz.ntmps62
  go_wp2
  go_ret3
  exact⟨rfl,Below.refl _ _⟩
 ·rw[if_neg h0]
  obtain⟨j,rfl⟩:∃j,n=j+1:=⟨n-1,by
   have:n≠0:=fun e=>h0 (List.eq_nil_of_length_eq_zero (by omega))
   omega⟩
  obtain⟨b,off,nm,rfl,_,hbw,hx,hsz,hcn⟩:=vZ hS j (by omega)
  have hdl:(ls.map strOf).take j=ls.dropLast.map strOf:=by
   rw[List.dropLast_eq_take,hln,List.map_take];rfl
  have hnm:ls.getLastD []=nm:=by
   rw[List.getLastD_eq_getLast?,List.getLast?_eq_getElem?,hln,show j+1-1=j from rfl,hx];rfl
  have hT1:=hS.take j (by omega)
  rw[hdl]at hT1
  have sw:=Lib.hid (yC _ j c ls.dropLast w h hT hE hT1)
  have HH:=Lib.hid (fun w1 (hb:Below w.heap.size w w1) id=>sQ id w1 (h.below hb (Nat.le_refl _)) hT.touK)
  have Tj:=Lib.hid (je hT ls.dropLast 0 (gG hT))
  have e1:IntKind.i64.wrap (((j+1:Nat):Int)-1)=(j:Int):=by rw[show(((j+1:Nat):Int)-1)=(j:Int)by omega];exact IntWalk.i64_in _ (by omega)
  have e1':IntKind.i64.wrap ((j:Int)+1-1)=(j:Int):=by rw[show((j:Int)+1-1)=(j:Int)by omega];exact IntWalk.i64_in _ (by omega)
  have i0:(0:Int)≤j:=by omega
  have i1:(j:Int)<((j+1:Nat):Int):=by omega
  have Ti:(j:Int)<(j:Int)+1:=by omega
  have i2:(((j+1:Nat):Int)==0)=false:=by simp;omega
  have i2':((j:Int)+1==0)=false:=by simp;omega
  have hjc:j≤c:=by omega
  rw[hnm]
  clear h hT hE hS hx hsz hdl hnm hT1 hln h0
  obtain⟨⟨d,e0⟩,hq⟩:∃q,q=aY T 0 ls.dropLast:=⟨_,rfl⟩
  rw[←hq]at sw Tj
  rw[←hq]
  clear hq
  simp only at sw Tj
  simp only
  by_cases he:e0=0
  ·subst he
   obtain⟨x,hx⟩:=Option.isSome_iff_exists.1 (Tj.out rfl)
   have hnd:nU T d=kH d x:=by unfold nU;rw[hx]
   have hkd:=jl hx
   have Tk:=Lib.hid (fun w1 hb=>HH.out w1 hb d)
   rw[hnd]at Tk
   unfold kH at Tk
   rw[if_neg (by simp),hkd]
   clear hnd hkd HH hx Tj
   by_cases hk2:x.kind=2
   ·rw[if_pos hk2]
    rw[hk2]at Tk
    clear hk2
    go_enter Tryz.func62,Tryz.ntmps62
    go_wp2_with fail
    (with_reducible refine sw.out.mono ?_)
    rintro e w1 ⟨rfl,hb1⟩
    have HB1:=Lib.hid hb1
    clear hb1
    go_wp2_with fail
    (with_reducible refine(Tk.out w1 HB1.out).mono ?_)
    rintro e w2 ⟨rfl,hb2⟩
    have HB2:=Lib.hid (HB1.out.trans (hb2.mono HB1.out.size))
    clear hb2
    have hs2:=HB2.out.size
    have hc2:w2.cell? ⟨b,off+j,none⟩=some (.string (strOf nm)):=by rw[HB2.out.cell (p:=⟨b,off+j,none⟩) hbw];exact hcn
    have hb2w:b<w2.heap.size:=by omega
    go_wp2_with fail
    go_quiet (fail)
    go_wp2_with fail
    go_ret3
    exact⟨rfl,HB2.out.trans ⟨rfl,rfl,rfl,by simp,fun x hx=>Below.heap_alloc _ _ _ (by omega)⟩⟩
   ·have e3:(x.kind==2)=false:=by simpa using hk2
    have e4:(x.kind !=2)=true:=by simpa using hk2
    rw[if_neg hk2]
    clear hk2
    go_enter Tryz.func62,Tryz.ntmps62
    go_wp2_with fail
    (with_reducible refine sw.out.mono ?_)
    rintro e w1 ⟨rfl,hb1⟩
    have HB1:=Lib.hid hb1
    clear hb1
    go_wp2_with fail
    (with_reducible refine(Tk.out w1 HB1.out).mono ?_)
    rintro e w2 ⟨rfl,hb2⟩
    have HB2:=Lib.hid (HB1.out.trans (hb2.mono HB1.out.size))
    clear hb2
    go_wp2_with fail
    go_ret3
    exact⟨rfl,HB2.out.trans ((wall w2 _).mono HB2.out.size)⟩
  ·rw[if_pos he]
   have hne:(e0==0)=false:=by simpa using he
   have hne2:(e0 !=0)=true:=by simpa using he
   clear he HH Tj
   go_enter Tryz.func62,Tryz.ntmps62
   go_wp2_with fail
   (with_reducible refine sw.out.mono ?_)
   rintro e w1 ⟨rfl,hb1⟩
   go_wp2_with fail
   go_ret3
   exact⟨rfl,hb1⟩
end
theorem bZ {w:World} {base g:Nat} {e:TypeId} {k:Nat} (hg:w.heap[g]? =some (.cells #[] e)) (hb:base≤g):w.ownsRow base e k (.slice (some ⟨g,0,none⟩) 0 0) 0 []:=by
 refine⟨by simp, .inr ⟨g,0,#[],rfl,hb,hg,Nat.le_refl _,Nat.zero_le _,by simp,by simp⟩⟩
theorem ak.jS {w:World} {base:Nat} {e:TypeId} {k:Nat} {a:Option Addr} {m n c:Nat} {xs:List Value} (h:w.ownsRow base e k (.slice a m c) n xs) (hs:n*k≤maxLen):m=n∧n≤c∧Base a c∧ak (fun x=>base≤x∧x<w.heap.size) w a (n*k) xs:=by
 obtain⟨h1,h2⟩:=h
 rcases h2 with⟨h2,rfl⟩|⟨g,cap,cur,h2,hg,hcur,h3,h4,h5,h6⟩
 ·simp only[Value.slice.injEq]at h2
  obtain⟨rfl,rfl,rfl⟩:=h2
  have:xs=[]:=List.eq_nil_of_length_eq_zero (by omega)
  subst this
  rw[Nat.zero_mul]
  exact⟨rfl,Nat.le_refl _,Or.inl ⟨rfl,rfl⟩,ak.nil _ _ _⟩
 ·simp only[Value.slice.injEq]at h2
  obtain⟨rfl,rfl,rfl⟩:=h2
  have hgw:=(Array.getElem?_eq_some_iff.1 hcur).1
  refine⟨rfl,h3,Or.inr ⟨_,rfl⟩,h1,hs,fun h0=>⟨g,0,rfl,⟨hg,hgw⟩,hgw,fun i hi=> ?_⟩⟩
  simp only[World.cell?,hcur,Nat.zero_add]
  rw[←h6,List.getElem?_take,if_pos hi]
  simp
theorem iR {P:Program} {S:Nat→Prop} {w:World} (base:Nat) (t ty e:TypeId) (i:TypeInfo) (z:Value) (k bytes:Nat) (ht:P.underlying t=some (.slice e)) (hi:P.info? e=some i) (hz:i.zero=some z)
  (hsize:i.size=k) (hby:i.bytes=bytes) (hzs:z.cells.size=k) (hk:0<k) (v:Value) (n:Nat) (xs:List Value) (hown:w.ownsRow base e k v n xs)
  (A:Option Addr) (m c:Nat) (news:List Value) (hr:ak S w A (m*k) news) (h1:∀u∈news,u.oneCell'=true) (h63:n+m≤maxLen) (hbytes:(n+m)*bytes≤140737488355328) (hbase:base≤w.heap.size):
  ∃A' c' w',(Builtin.append_ #[t,t] ty #[v, .slice A m c]).run P w= .ok (.slice A' (n+m) c') w'∧w'.ownsRow base e k (.slice A' (n+m) c') (n+m) (xs++news)∧w.grownBy w' v.ownBlock∧
   ((Value.slice A' (n+m) c').ownBlock=v.ownBlock∨(Value.slice A' (n+m) c').ownBlock=some w.heap.size):=by
 rcases A with _|ad
 ·have hm:m=0:=by
   rcases Nat.eq_zero_or_pos m with h0|h0
   ·exact h0
   ·obtain⟨_,_,h,_⟩:=hr.at_ (Nat.mul_pos h0 hk)
    cases h
  subst hm
  have hn:news=[]:=List.eq_nil_of_length_eq_zero (by rw[hr.length];omega)
  subst hn
  obtain⟨A',c',rfl,_⟩:=bQ hown
  refine⟨A',c',w,?_,by simpa using hown,⟨rfl,rfl,rfl,Nat.le_refl _,fun _ _ _=>rfl⟩,Or.inl rfl⟩
  rcases hown.2 with⟨h2,rfl⟩|⟨g,cap,cur,h2,_,_,hnc,_⟩
  ·simp only[Value.slice.injEq]at h2
   obtain⟨rfl,_,rfl⟩:=h2
   simp[Builtin.append_,run_underlying ht,sizeOf,typeInfo,hi,Builtin.lenOf,Builtin.firstCells]
  ·simp only[Value.slice.injEq]at h2
   obtain⟨rfl,_,rfl⟩:=h2
   simp[Builtin.append_,run_underlying ht,sizeOf,typeInfo,hi,Builtin.lenOf,Builtin.firstCells,hnc,storeCells]
 ·obtain⟨v',w',hr',h2,h3,h4,h5⟩:=run_append_own_at (P:=P) w base t ty e i z k bytes ht hi hz hsize hby hzs hk v n xs hown ad m c news hr.length hr.cells h1 h63 hbytes hbase
  obtain⟨A',c',rfl,_⟩:=bQ h2
  exact⟨A',c',w',hr',h2,h3,h5⟩
theorem au {P:Program} {S:Nat→Prop} {ops:Array Oper} {o:Oper} {a:Act} {w:World} {K:Act→World→Prop} {Q:Exit→Act→World→Prop} {E:Prop} (hgd:o.guard=none) (s x:Operand) (t:TypeId)
  (ho:o.op= .call {callee:= .builtin .append,args:= #[s,x],argTypes:= #[t,t]})
  (base:Nat) (e:TypeId) (i:TypeInfo) (z:Value) (k bytes:Nat) (ht:P.underlying t=some (.slice e)) (hi:P.info? e=some i) (hz:i.zero=some z)
  (hsize:i.size=k) (hby:i.bytes=bytes) (hzs:z.cells.size=k) (hk:0<k) (v:Value) (n:Nat) (xs:List Value) (hs:a.eval s=v) (hown:w.ownsRow base e k v n xs)
  (A:Option Addr) (m c:Nat) (news:List Value) (hx:a.eval x= .slice A m c) (hr:ak S w A (m*k) news) (h1:∀u∈news,u.oneCell'=true) (h63:n+m≤maxLen) (hbytes:(n+m)*bytes≤140737488355328) (hbase:base≤w.heap.size)
  (h:∀A' c' w',w'.ownsRow base e k (.slice A' (n+m) c') (n+m) (xs++news)→Below base w w'→K (a.put o.dst (.slice A' (n+m) c')) w'):
  if Region.wanted o (yielded ops a.tmps)=true then Oper.wp P o a w K Q else E:=by
 have hw:Region.wanted o (yielded ops a.tmps)=true:=by simp[Region.wanted,hgd]
 rw[if_pos hw]
 obtain⟨A',c',w',hr,h2,h3,h4⟩:=iR (P:=P) base t o.type e i z k bytes ht hi hz hsize hby hzs hk v n xs hown A m c news hr h1 h63 hbytes hbase
 unfold Oper.wp execOp
 simp only[ho,resolve,invoke,builtin,Sem.run_bind,Sem.run_pure,Result.andThen_ok,List.map_toArray,List.map_cons,List.map_nil,hs,hx,hr]
 exact h A' c' w' h2 ⟨h3.os,h3.tape,h3.output,h3.size,fun b hb=>h3.block b (by omega) (fun e=>by have:=bC hown b e.symm;omega)⟩
theorem jK {α β:Type} (f:α→List β) (k:Nat) (hk:∀x,(f x).length=k):∀(L:List α) (i:Nat),(L.flatMap f).take (i*k)=(L.take i).flatMap f
 |[],i=>by simp
 |y::r,0=>by simp
 |y::r,i+1=>by
  rw[List.flatMap_cons,List.take_succ_cons,List.flatMap_cons,Nat.add_mul,Nat.one_mul,Nat.add_comm,←hk y,List.take_length_add_append,hk y,jK f k hk r i]
theorem jL {α β:Type} (f:α→List β) (k:Nat) (hk:∀x,(f x).length=k):∀(L:List α) (i:Nat),(L.flatMap f).drop (i*k)=(L.drop i).flatMap f
 |[],i=>by simp
 |y::r,0=>by simp
 |y::r,i+1=>by
  rw[List.flatMap_cons,List.drop_succ_cons,Nat.add_mul,Nat.one_mul,Nat.add_comm,←hk y,List.drop_length_add_append,hk y,jL f k hk r i]
theorem sU {α β:Type} (f:α→List β) (k:Nat) (hk:∀x,(f x).length=k) {j:Nat} {x x':α} {v:β} (hj:j<k) (hv:f x'=(f x).set j v):∀(L:List α) (i:Nat),L[i]? =some x→(L.flatMap f).set (i*k+j) v=(L.set i x').flatMap f
 |[],i,h=>by simp at h
 |y::r,0,h=>by
  simp only[List.getElem?_cons_zero,Option.some.injEq]at h
  subst h
  rw[List.flatMap_cons,Nat.zero_mul,Nat.zero_add,List.set_append_left _ _ (by rw[hk];exact hj),List.set_cons_zero,List.flatMap_cons,hv]
 |y::r,i+1,h=>by
  rw[List.flatMap_cons,List.set_append_right _ _ (by rw[hk,Nat.add_mul];omega),hk,show(i+1)*k+j-k=i*k+j by rw[Nat.add_mul];omega,sU f k hk hj hv r i (by simpa using h)]
  rfl
theorem jy (E:List iw):∀u∈E.flatMap dM,u.oneCell'=true:=by
 intro u hu
 obtain⟨e,_,he⟩:=List.mem_flatMap.1 hu
 simp only[dM,List.mem_cons,List.not_mem_nil,or_false]at he
 rcases he with rfl|rfl|rfl<;>rfl
theorem dx (T:aI):∀u∈T.flatMap bA,u.oneCell'=true:=by
 intro u hu
 obtain⟨e,_,he⟩:=List.mem_flatMap.1 hu
 simp only[bA,List.mem_cons,List.not_mem_nil,or_false]at he
 rcases he with rfl|rfl|rfl|rfl|rfl|rfl<;>rfl
theorem uS:(Tryz.prog.info? 131).map (fun i=>(i.zero,i.size,i.bytes))=some (some (.agg #[.int .i64 0, .string ⟨#[]⟩, .int .i64 0]),3,32):=by kernel_rfl
theorem nodeInfo:(Tryz.prog.info? 98).map (fun i=>(i.zero,i.size,i.bytes))=some (some (.agg #[.int .i64 0, .int .i64 0, .int .i64 0, .int .i64 0, .int .u64 0, .bool false]),6,48):=by kernel_rfl
theorem oO:(Tryz.prog.info? 39).map (fun i=>(i.zero,i.size,i.bytes))=some (some (.slice none 0 0),1,24):=by kernel_rfl
theorem ak.fE {S:Nat→Prop} {w:World} {b off len:Nat} {vs:List Value} (h:ak S w (some ⟨b,off,none⟩) len vs) {j:Nat} (hj:j<len) (v:Value):ak S (w.setCell ⟨b,off+j,none⟩ v) (some ⟨b,off,none⟩) len (vs.set j v):=by
 obtain⟨b',off',e,hS,hb,hc⟩:=h.at_ (by omega)
 simp only[Option.some.injEq,Addr.mk.injEq,and_true]at e
 obtain⟨rfl,rfl⟩:=e
 have hl:=h.length
 refine⟨by simpa using hl,h.small,fun _=>⟨b,off,rfl,hS,by rw[size_set];exact hb,fun i hi=> ?_⟩⟩
 by_cases hij:i=j
 ·subst hij
  have h1:=hc i hi
  rw[List.getElem?_eq_getElem (by omega)]at h1
  rw[World.cell?_setCell_same _ _ _ h1,List.getElem?_set_self (by omega)]
 ·rw[World.cell?_setCell_other _ _ _ _ (fun e=>by
   simp only[Addr.mk.injEq,and_true,true_and]at e
   omega),hc i hi,List.getElem?_set_ne (Ne.symm hij)]
theorem ak.apart {S:Nat→Prop} {w:World} {a:Option Addr} {len:Nat} {vs:List Value} (h:ak S w a len vs) (q:Addr) (v:Value) (hq:∀b,S b→b≠q.block):ak S (w.setCell q v) a len vs:=
 h.kept (by rw[size_set];exact Nat.le_refl _) fun b hb _=>aP _ _ _ _ (hq b hb)
theorem ak.frozen {w:World} {q:Addr} {cs:Array Value} {t:TypeId} (h:w.heap[q.block]? =some (.cells cs t (0,0))) (hq:q.spot=none):w.frozen? q=false:=by
 obtain⟨b,o,s⟩:=q
 simp only at hq h
 subst hq
 simp[World.frozen?,h]
def New (w w':World):Nat→Prop:=fun x=>w.heap.size≤x∧x<w'.heap.size
def Grow (F:Nat→Prop) (w w':World):Nat→Prop:=fun x=>F x∨(w.heap.size≤x∧x<w'.heap.size)
def cu (F:Nat→Prop) (w:World) (r:Nat) (T:aI) (D:List (List UInt8)) (E:List iw) (v:Value) (e:Ending) (w':World):Prop:=
 e= .returned v∧Keeps (fun x=>x=r) w w'∧eX (Grow F w w') w' r T D E
abbrev dJ (F:Nat→Prop) (w:World) (r:Nat) (T:aI) (v:Value) (e:Ending) (w':World):Prop:=cu F w r T (T.map fun q=>q.2.b) (aQ T) v e w'
section
variable {F:Nat→Prop} {r:Nat} {T T':aI} {D D':List (List UInt8)} {E E':List iw} {w w' w2:World}
theorem eX.mono {F':Nat→Prop} (h:eX F w r T D E) (hs:∀b,F b→F' b) (hl:∀b,F' b→b<w.heap.size):eX F' w r T D E:=by
 obtain⟨aN,cN,aD,cD,aE,cE,h1,h2,h3,h4,h8,h9,h10,h11⟩:=h.head
 have hk:∀b,Off F r b→b<w.heap.size→Off F' r b∧w.heap[b]? =w.heap[b]? :=fun b hb _=>⟨⟨hs b hb.1,hb.2⟩,rfl⟩
 exact⟨⟨aN,cN,aD,cD,aE,cE,h1,h2,h3,h4,h8.move (Nat.le_refl _) hk,h9.move (Nat.le_refl _) hk,h10.move (Nat.le_refl _) hk,h11⟩,hs _ h.own,hl⟩
theorem eX.grow (h:eX F w r T D E) (hb:Below w.heap.size w w'):eX (Grow F w w') w' r T D E:=
 (h.below hb (Nat.le_refl _)).mono (fun b hb=> .inl hb) fun b hx=>by
  rcases hx with hx|hx
  ·have:=h.low b hx;have:=hb.size;omega
  ·exact hx.2
theorem cu.same {v:Value} (h:eX F w r T D E) (hb:Below w.heap.size w w'):cu F w r T D E v (.returned v) w':=
 ⟨rfl,Keeps.mono (Keeps.below hb) (fun x hx hf=>by omega),h.grow hb⟩
theorem cu.trans {T2:aI} {D2:List (List UInt8)} {E2:List iw} {v v2:Value} {e e2:Ending} (hw:∀b,F b→b<w.heap.size) (h:cu F w r T' D' E' v e w') (k:cu (Grow F w w') w' r T2 D2 E2 v2 e2 w2):cu F w r T2 D2 E2 v2 e2 w2:=by
 refine⟨k.1,h.2.1.trans k.2.1 (fun x _ hx=>hx),k.2.2.mono (fun b hb=> ?_) fun b hx=> ?_⟩
 ·rcases hb with(hb|hb)|hb
  ·exact .inl hb
  ·exact .inr ⟨hb.1,Nat.lt_of_lt_of_le hb.2 k.2.1.size⟩
  ·exact .inr ⟨Nat.le_trans h.2.1.size hb.1,hb.2⟩
 ·rcases hx with hx|hx
  ·have:=hw b hx
   have:=h.2.1.size
   have:=k.2.1.size
   omega
  ·exact hx.2
theorem cu.behind {v:Value} {e:Ending} (hw:∀b,F b→b<w.heap.size) (hb:Below w.heap.size w w') (k:cu F w' r T D E v e w2):cu F w r T D E v e w2:=by
 refine⟨k.1,(Keeps.mono (Keeps.below hb) (fun x hx hf=>by omega)).trans k.2.1 (fun x _ hx=>hx),k.2.2.mono (fun b hx=> ?_) fun b hx=> ?_⟩
 ·rcases hx with hx|hx
  ·exact .inl hx
  ·exact .inr ⟨Nat.le_trans hb.size hx.1,hx.2⟩
 ·rcases hx with hx|hx
  ·have:=hw b hx
   have:=hb.size
   have:=k.2.1.size
   omega
  ·exact hx.2
theorem cu.then_ {v:Value} {e:Ending} (k:cu F w r T D E v e w') (hw:∀b,F b→b<w.heap.size) (hb:Below w'.heap.size w' w2):cu F w r T D E v e w2:=by
 have h1:=k.2.2.below hb (Nat.le_refl _)
 refine⟨k.1,k.2.1.trans (fp':=fun x=>w'.heap.size≤x) (Keeps.below hb) (fun x hx hf=>by have:=k.2.1.size;omega),h1.mono (fun b hx=> ?_) fun b hx=> ?_⟩
 ·rcases hx with hx|hx
  ·exact .inl hx
  ·exact .inr ⟨hx.1,Nat.lt_of_lt_of_le hx.2 hb.size⟩
 ·rcases hx with hx|hx
  ·have:=hw b hx
   have:=hb.size
   have:=k.2.1.size
   omega
  ·exact hx.2
theorem mE {a:Option Addr} {n:Nat} {vs:List Value} (hK:Keeps (fun x=>x=r) w w') (h:ak (Off F r) w a n vs):ak (Off (Grow F w w') r) w' a n vs:=
 h.move hK.size fun b hb hbw=>⟨⟨.inl hb.1,hb.2⟩,hK.block b hbw hb.2⟩
theorem uT {a:Option Addr} {n:Nat} {vs:List Value} (hr:r<w.heap.size) (h:ak (New w w') w' a n vs):ak (Off (Grow F w w') r) w' a n vs:=
 h.mono fun b hb=>⟨.inr hb,fun e=>by have:=hb.1;omega⟩
theorem JQ (hw:∀b,F b→b<w.heap.size) (hs:w.heap.size≤w'.heap.size):∀b,Grow F w w' b→b<w'.heap.size:=fun b hx=>by
 rcases hx with hx|hx
 ·have:=hw b hx;omega
 ·exact hx.2
theorem eX.turn (h:eX F w r T D E) (hK:Keeps (fun x=>x=r) w w') {aN aD aE:Option Addr} {cN cD cE:Nat} (hh:w'.heap[r]? =some (.cells #[.slice aN T'.length cN, .slice aD D'.length cD, .slice aE E'.length cE] 102 (0,0)))
  (h1:T'.length≤cN) (h2:D'.length≤cD) (h3:E'.length≤cE) (hN:ak (Off (Grow F w w') r) w' aN (T'.length*6) (T'.flatMap bA)) (hD:BytesAt (Off (Grow F w w') r) w' aD D') (hE:ak (Off (Grow F w w') r) w' aE (E'.length*3) (E'.flatMap dM)) (hB:Base aE cE):eX (Grow F w w') w' r T' D' E':=
 ⟨⟨aN,cN,aD,cD,aE,cE,hh,h1,h2,h3,hN,hD,hE,hB⟩, .inl h.own,JQ h.low hK.size⟩
theorem eX.names (h:eX F w r T D E) (hl:T'.length=T.length) (hn:T'.flatMap bA=T.flatMap bA):eX F w r T' D E:=by
 obtain⟨aN,cN,aD,cD,aE,cE,h1,h2,h3,h4,h8,h9,h10,h11⟩:=h.head
 exact⟨⟨aN,cN,aD,cD,aE,cE,by rw[hl];exact h1,by rw[hl];exact h2,h3,h4,by rw[hl,hn];exact h8,h9,h10,h11⟩,h.own,h.low⟩
end
def Plain (w:World) (a:Option Addr):Prop:=∀g off,a=some ⟨g,off,none⟩→∃cs t,w.heap[g]? =some (.cells cs t (0,0))
theorem Plain.kept {w w':World} {a:Option Addr} (h:Plain w a) (hk:∀g off,a=some ⟨g,off,none⟩→w'.heap[g]? =w.heap[g]?):Plain w' a:=fun g off e=>by
 obtain⟨cs,t,h1⟩:=h g off e
 exact⟨cs,t,(hk g off e).trans h1⟩
theorem Plain.fE {w:World} {a:Option Addr} (h:Plain w a) (q:Addr) (v:Value) (hq:q.spot=none):Plain (w.setCell q v) a:=fun g off e=>by
 obtain⟨cs,t,h1⟩:=h g off e
 obtain⟨b,o,sp⟩:=q
 simp only at hq
 subst hq
 by_cases hb:g=b
 ·subst hb
  exact⟨_,_,aL h1⟩
 ·exact⟨cs,t,(aP _ _ _ _ hb).trans h1⟩
theorem Plain.frozen {w:World} {g off:Nat} (h:Plain w (some ⟨g,off,none⟩)) (j:Nat):w.frozen? ⟨g,j,none⟩=false:=by
 obtain⟨cs,t,h1⟩:=h g off rfl
 simp[World.frozen?,h1]
theorem jM {w:World} {base:Nat} {e:TypeId} {k:Nat} {a:Option Addr} {m n c:Nat} {xs:List Value} (h:w.ownsRow base e k (.slice a m c) n xs):Plain w a:=fun g off he=>by
 subst he
 obtain⟨_,h2⟩:=h
 rcases h2 with⟨h2,_⟩|⟨g',cap,cur,h2,hg,hcur,_⟩
 ·cases h2
 ·simp only[Value.slice.injEq,Option.some.injEq,Addr.mk.injEq,and_true]at h2
  obtain⟨⟨rfl,_⟩,_⟩:=h2
  exact⟨_,_,hcur⟩
def bq (w:World) (r:Nat) (x1 x2:Value) (T:aI) (wx:World):Prop:=
 Keeps (fun x=>x=r) w wx∧r<w.heap.size∧∃a c,wx.heap[r]? =some (.cells #[.slice a T.length c,x1,x2] 102 (0,0))∧T.length≤c∧ak (New w wx) wx a (T.length*6) (T.flatMap bA)∧Plain wx a
theorem mF {w w1 w2:World} {e:TypeId} {k:Nat} {a:Option Addr} {m n c:Nat} {xs:List Value} (h:w2.ownsRow w1.heap.size e k (.slice a m c) n xs) (hs:n*k≤maxLen) (hw:w.heap.size≤w1.heap.size):m=n∧n≤c∧Base a c∧ak (New w w2) w2 a (n*k) xs:=by
 obtain⟨h1,h2,h3,h4⟩:=ak.jS h hs
 exact⟨h1,h2,h3,h4.mono fun b hb=>⟨by omega,hb.2⟩⟩
theorem wF {w w1:World} {r j:Nat} {v:Value} {a:Option Addr} {n:Nat} {vs:List Value} (hr:r<w.heap.size) (h:ak (New w w1) w1 a n vs):ak (New w (w1.setCell ⟨r,j,none⟩ v)) (w1.setCell ⟨r,j,none⟩ v) a n vs:=
 (h.apart ⟨r,j,none⟩ v fun b hb=>by
  show b≠r
  have:=hb.1
  omega).mono fun b hb=>⟨hb.1,by rw[size_set];exact hb.2⟩
theorem bq.RG {w w1:World} {r:Nat} {x0 x1 x2:Value} {T:aI} {a:Option Addr} {c:Nat} (hr:r<w.heap.size) (h1:w.heap[r]? =some (.cells #[x0,x1,x2] 102 (0,0))) (hb:Below w.heap.size w w1) (hc:T.length≤c) (hrow:ak (New w w1) w1 a (T.length*6) (T.flatMap bA)) (hp:Plain w1 a):bq w r x1 x2 T (w1.setCell ⟨r,0,none⟩ (.slice a T.length c)):=by
 refine⟨(Keeps.mono (Keeps.below hb) (fun x hx hf=>by omega)).trans (Keeps.fE _ _ _) fun x _ hx=>hx,hr,a,c,?_,hc,wF hr hrow,hp.fE _ _ rfl⟩
 rw[aL ((hb.block r hr).trans h1)]
 rfl
theorem bq.fE {w wx:World} {r:Nat} {x1 x2:Value} {T:aI} (h:bq w r x1 x2 T wx) {g off c:Nat} (hc:wx.cell? ⟨r,0,none⟩=some (.slice (some ⟨g,off,none⟩) T.length c)) {k j:Nat} {q q':Int×bf} {v:Value} (hq:T[k]? =some q) (hj:j<6) (hv:bA q'=(bA q).set j v):bq w r x1 x2 (T.set k q') (wx.setCell ⟨g,off+(k*6+j),none⟩ v):=by
 obtain⟨hK,hr,a,c',h1,h2,h3,hp⟩:=h
 have hc':wx.cell? ⟨r,0,none⟩=some (.slice a T.length c'):=by simp[World.cell?,h1]
 rw[hc']at hc
 simp only[Option.some.injEq,Value.slice.injEq,true_and]at hc
 obtain⟨rfl,rfl⟩:=hc
 have hk:k<T.length:=(List.getElem?_eq_some_iff.1 hq).1
 obtain⟨b,o,e,hF,hb,-,-⟩:=h3.wide dG rfl hq (by omega)
 simp only[Option.some.injEq,Addr.mk.injEq,and_true]at e
 obtain⟨rfl,rfl⟩:=e
 have hgr:g≠r:=fun e=>by have:=hF.1;omega
 refine⟨hK.trans (fp':=fun x=>x=g) (Keeps.fE wx ⟨g,off+(k*6+j),none⟩ v) (fun x hx hf=>by have:=hF.1;omega),hr,some ⟨g,off,none⟩,c',?_,by rw[List.length_set];exact h2,?_,?_⟩
 ·rw[aP _ _ _ _ (Ne.symm hgr),List.length_set];exact h1
 ·have h4:=h3.fE (j:=k*6+j) (by omega) v
  rw[sU bA 6 dG hj hv T k hq]at h4
  rw[List.length_set]
  exact h4.mono fun b hb=>⟨hb.1,by rw[size_set];exact hb.2⟩
 ·exact hp.fE _ _ rfl
theorem eX.qD {F:Nat→Prop} {w wx:World} {r:Nat} {T T':aI} {D:List (List UInt8)} {E:List iw} {x0 x1 x2:Value} (h:eX F w r T D E) (h1:w.heap[r]? =some (.cells #[x0,x1,x2] 102 (0,0))) (hm:bq w r x1 x2 T' wx) (v:Value):cu F w r T' D E v (.returned v) wx:=by
 obtain⟨hK,hr,a,c,h2,h3,h4,-⟩:=hm
 obtain⟨aN,cN,aD,cD,aE,cE,g1,-,g3,g4,-,g9,g10,g11⟩:=h.head
 rw[h1]at g1
 simp only[Option.some.injEq,Obj.cells.injEq,Array.mk.injEq,List.cons.injEq,and_true,true_and]at g1
 obtain⟨-,rfl,rfl⟩:=g1
 refine⟨rfl,hK,h.turn hK h2 h3 g3 g4 (uT hr h4) ?_ (mE hK g10) g11⟩
 exact g9.move hK.size fun b hb2 hbw=>⟨⟨.inl hb2.1,hb2.2⟩,hK.block b hbw hb2.2⟩
def Each (F:Nat→Prop) (w:World) (vs:List Value) (bs:List (List UInt8)):Prop:=∀(i:Nat) (b:List UInt8),bs[i]? =some b→∃(a:Option Addr) (c:Nat),vs[i]? =some (.slice a b.length c)∧qN b.length c∧ak F w a b.length (b.map bv)
theorem Each.cut {F:Nat→Prop} {w:World} {vs:List Value} {bs:List (List UInt8)} (h:Each F w vs bs) (hl:vs.length=bs.length) (k:Nat) (hk:k<bs.length):Each F w (vs.take k++vs.drop (k+1)) (bs.take k++bs.drop (k+1)):=by
 intro i b hb
 by_cases hi:i<k
 ·rw[List.getElem?_append_left (by rw[List.length_take];omega),List.getElem?_take,if_pos hi]at hb⊢
  exact h i b hb
 ·rw[List.getElem?_append_right (by rw[List.length_take];omega),List.length_take,List.getElem?_drop]at hb⊢
  rw[hl]
  exact h _ b hb
theorem Each.one {F:Nat→Prop} {w:World} {vs:List Value} {bs:List (List UInt8)} (h:Each F w vs bs) (hl:vs.length=bs.length):∀u∈vs,u.oneCell'=true:=by
 intro u hu
 obtain⟨i,hi,rfl⟩:=List.mem_iff_getElem.1 hu
 obtain⟨a,c,h1,-⟩:=h i bs[i] (List.getElem?_eq_getElem (by omega))
 rw[List.getElem?_eq_getElem hi]at h1
 simp only[Option.some.injEq]at h1
 rw[h1]
 rfl
theorem Each.move {F F':Nat→Prop} {w w':World} {vs:List Value} {bs:List (List UInt8)} (h:Each F w vs bs) (hs:w.heap.size≤w'.heap.size) (hk:∀b,F b→b<w.heap.size→F' b∧w'.heap[b]? =w.heap[b]?):Each F' w' vs bs:=by
 intro i b hb
 obtain⟨a,c,h3,h4,h5⟩:=h i b hb
 exact⟨a,c,h3,h4,h5.move hs hk⟩
theorem eX.yG {F:Nat→Prop} {w w1 w2:World} {r:Nat} {T T':aI} {D D':List (List UInt8)} {E:List iw} {x0 x1 x2:Value} (h:eX F w r T D E) (h1:w.heap[r]? =some (.cells #[x0,x1,x2] 102 (0,0))) (hm:bq w r x1 x2 T' w1) (hb:Below w1.heap.size w1 w2) {a:Option Addr} {c:Nat} {vs:List Value} (hc:D'.length≤c) (hrow:ak (New w w2) w2 a D'.length vs) (he:Each (Off (Grow F w w2) r) w2 vs D') (v:Value):cu F w r T' D' E v (.returned v) (w2.setCell ⟨r,1,none⟩ (.slice a D'.length c)):=by
 obtain⟨hK,hr,aM,cM,h2,h3,h4,-⟩:=hm
 obtain⟨aN,cN,aD,cD,aE,cE,g1,-,g3,g4,-,g9,g10,g11⟩:=h.head
 rw[h1]at g1
 simp only[Option.some.injEq,Obj.cells.injEq,Array.mk.injEq,List.cons.injEq,and_true,true_and]at g1
 obtain⟨-,rfl,rfl⟩:=g1
 have hs1:=hK.size
 have hs2:=hb.size
 have hK2:Keeps (fun x=>x=r) w w2:=hK.trans (Keeps.below hb) (fun x hx hf=>by omega)
 have hK3:Keeps (fun x=>x=r) w (w2.setCell ⟨r,1,none⟩ (.slice a D'.length c)):=hK2.trans (Keeps.fE _ _ _) fun x _ hx=>hx
 have Wm:ak (New w w2) w2 aM (T'.length*6) (T'.flatMap bA):=(h4.below hb (Nat.le_refl _)).mono fun b hb=>⟨hb.1,Nat.lt_of_lt_of_le hb.2 hs2⟩
 refine⟨rfl,hK3,h.turn hK3 ?_ h3 hc g4 (uT hr (wF hr Wm)) ⟨vs,uT hr (wF hr hrow),?_⟩ (mE hK3 g10) g11⟩
 ·rw[aL ((hb.block r (by omega)).trans h2)]
  rfl
 ·exact he.move (by rw[size_set];exact Nat.le_refl _) fun b hb2 _=>⟨⟨hb2.1.imp id fun h=>⟨h.1,by rw[size_set];exact h.2⟩,hb2.2⟩,aP _ _ _ _ hb2.2⟩
theorem bB {P:Program} {S:Nat→Prop} {ops:Array Oper} {o:Oper} {a:Act} {w:World} {K:Act→World→Prop} {Q:Exit→Act→World→Prop} {E:Prop} (hgd:o.guard=none) (s x:Operand) (t:TypeId)
  (ho:o.op= .call {callee:= .builtin .append,args:= #[s,x],argTypes:= #[t,t]})
  (base:Nat) (e:TypeId) (i:TypeInfo) (z:Value) (k bytes:Nat) (ht:P.underlying t=some (.slice e)) (hi:P.info? e=some i) (hz:i.zero=some z)
  (hsize:i.size=k) (hby:i.bytes=bytes) (hzs:z.cells.size=k) (hk:0<k) (v:Value) (n:Nat) (xs:List Value) (hs:a.eval s=v) (hown:w.ownsRow base e k v n xs)
  (A:Option Addr) (m c:Nat) (news:List Value) (hx:a.eval x= .slice A m c) (hr:ak S w A (m*k) news) (h1:∀u∈news,u.oneCell'=true) (h63:n+m≤maxLen) (hbytes:(n+m)*bytes≤140737488355328) (hbase:base≤w.heap.size)
  (h:∀A' c' w',w'.ownsRow base e k (.slice A' (n+m) c') (n+m) (xs++news)→Below base w w'→w.grownBy w' v.ownBlock→K (a.put o.dst (.slice A' (n+m) c')) w'):
  if Region.wanted o (yielded ops a.tmps)=true then Oper.wp P o a w K Q else E:=by
 have hw:Region.wanted o (yielded ops a.tmps)=true:=by simp[Region.wanted,hgd]
 rw[if_pos hw]
 obtain⟨A',c',w',hr,h2,h3,h4⟩:=iR (P:=P) base t o.type e i z k bytes ht hi hz hsize hby hzs hk v n xs hown A m c news hr h1 h63 hbytes hbase
 unfold Oper.wp execOp
 simp only[ho,resolve,invoke,builtin,Sem.run_bind,Sem.run_pure,Result.andThen_ok,List.map_toArray,List.map_cons,List.map_nil,hs,hx,hr]
 exact h A' c' w' h2 ⟨h3.os,h3.tape,h3.output,h3.size,fun b hb=>h3.block b (by omega) (fun e=>by have:=bC hown b e.symm;omega)⟩ h3
theorem ak.grown {S:Nat→Prop} {w w':World} {ob:Option Nat} {a:Option Addr} {n:Nat} {vs:List Value} (h:ak S w a n vs) (hg:w.grownBy w' ob) (hn:∀b,S b→b<w.heap.size→ob≠some b):ak S w' a n vs:=
 h.kept hg.size fun b hb hbw=>hg.block b hbw (fun e=>hn b hb hbw e.symm)
theorem fK {P:Program} {S:Nat→Prop} {w:World} {ops:Array Oper} {rest:List Oper} {o:Oper} {a:Act} {Q:Exit→Act→World→Prop} (hgd:o.guard=none) (s x:Operand) (t:TypeId)
  (ho:o.op= .call {callee:= .builtin .append,args:= #[s,x],argTypes:= #[t,t]})
  (base:Nat) (e:TypeId) (i:TypeInfo) (z:Value) (k bytes:Nat) (ht:P.underlying t=some (.slice e)) (hi:P.info? e=some i) (hz:i.zero=some z)
  (hsize:i.size=k) (hby:i.bytes=bytes) (hzs:z.cells.size=k) (hk:0<k) (v:Value) (n:Nat) (xs:List Value) (hs:a.eval s=v) (hown:w.ownsRow base e k v n xs)
  (A:Option Addr) (m c:Nat) (news:List Value) (hx:a.eval x= .slice A m c) (hr:ak S w A (m*k) news) (h1:∀u∈news,u.oneCell'=true) (h63:n+m≤maxLen) (hbytes:(n+m)*bytes≤140737488355328) (hbase:base≤w.heap.size)
  (h:∀A' c' w',w'.ownsRow base e k (.slice A' (n+m) c') (n+m) (xs++news)→Below base w w'→wpList P ops Q rest (a.put o.dst (.slice A' (n+m) c')) w'):
  wpList P ops Q (o::rest) a w:=by
 refine wpList_plain hgd fun K hK=> ?_
 obtain⟨A',c',w',hr,h2,h3,h4⟩:=iR (P:=P) base t o.type e i z k bytes ht hi hz hsize hby hzs hk v n xs hown A m c news hr h1 h63 hbytes hbase
 unfold Oper.wp execOp
 simp only[ho,resolve,invoke,builtin,Sem.run_bind,Sem.run_pure,Result.andThen_ok,List.map_toArray,List.map_cons,List.map_nil,hs,hx,hr]
 exact hK _ _ (h A' c' w' h2 ⟨h3.os,h3.tape,h3.output,h3.size,fun b hb=>h3.block b (by omega) (fun e=>by have:=bC hown b e.symm;omega)⟩)
end Go.Proofs.YtohpcppeajijnaaGreat
