/- The -/
import Derived.Test.YthillkfmdndedaaGreatDoorM26
set_option maxRecDepth 100000
set_option maxHeartbeats 64000000
set_option linter.all false
namespace Go.Proofs.YthillkfmdndedaaGreatDoor
open Go.ChangeShapes Go.WideShapes Go.ChangeAt Go.RowKit
def Md(a b:Int):Bool:=decide (b<=a)
def EY(now tick:Int):Int:=if tick<=1099511627776 then max now tick else now
theorem sG(t:Int)(w:World):
  Dy 144 #[.int .u64 t] w λ e w'=>e= .returned (.bool (decide (t<=1099511627776)))/\w=w':=by
 go_enter Tryz.func144,Tryz.ntmps144;go_wp2;go_ret;exact⟨rfl,rfl⟩
theorem uf(a b:Int)(w:World):
  Dy 195 #[.int .u64 a,.int .u64 b] w λ e w'=>e= .returned (.bool (Md a b))/\w=w':=by
 go_enter Tryz.func195,Tryz.ntmps195;go_wp2;go_ret;exact⟨rfl,rfl⟩
theorem XJ(a b:Int)(w:World):
  Dy 70 #[.int .u64 a,.int .u64 b] w λ e w'=>e= .returned (.int .u64 (EY a b))/\w=w':=by
 by_cases h:b<=1099511627776
 ·go_enter Tryz.func70,Tryz.ntmps70;go_wp2
  all_goals
   go_ret;exact⟨dX (by unfold EY;split<;>omega),rfl⟩
 ·go_enter Tryz.func70,Tryz.ntmps70;go_wp2
  all_goals
   go_ret;exact⟨dX (by unfold EY;split<;>omega),rfl⟩
def kindOf(k:Int):Int:=if k=1 then 0 else if k=2 then 22 else 30
def lU(k l u:Int)(c:Bool)(now:Int):Int:=if k=1/\c=true/\l<=1/\now<u then 28 else kindOf k
def ug(k u:Int)(c:Bool)(m:Int):Int:=
 if k=1 then(if c=false then 25 else if m<u then 28 else if 1099511627776<m then 1 else 0)else kindOf k
theorem jY(i k l s u:Int)(c:Bool)(w:World):
  Dy 194 #[.agg #[.int .i64 i,.int .i64 k,.int .i64 l,.int .i64 s,.int .u64 u,.bool c]] w λ e w'=>e= .returned (.int .i64 (kindOf k))/\w.alloc (.cells #[.int .i64 i,.int .i64 k,.int .i64 l,.int .i64 s,.int .u64 u,.bool c] 36)=w':=by
 by_cases y:k=1
 ·subst y;go_enter Tryz.func194,Tryz.ntmps194;go_wp2;go_ret;exact⟨rfl,rfl⟩
 ·by_cases m:k=2
  ·subst m;go_enter Tryz.func194,Tryz.ntmps194;go_wp2;go_ret;exact⟨rfl,rfl⟩
  ·have z:(k==1)=false:=by simp[y]
   have A:(k==2)=false:=by simp[m]
   go_enter Tryz.func194,Tryz.ntmps194;go_wp2;go_ret;exact⟨dX (by simp[kindOf,y,m]),rfl⟩
theorem kP:kindOf 1=0:=rfl
theorem Iw(k:Int)(h:k≠1):(kindOf k==0)=false/\(kindOf k !=0)=true:=by
 unfold kindOf;rw[if_neg h];split<;>decide
theorem Me(i k l s u:Int)(c:Bool)(now:Int)(w:World):
  Dy 134 #[.agg #[.int .i64 i,.int .i64 k,.int .i64 l,.int .i64 s,.int .u64 u,.bool c],.int .u64 now] w λ e w'=>e= .returned (.int .i64 (lU k l u c now))/\Below w.heap.size w w':=by
 by_cases y:k=1
 ·subst y;cases c
  ·go_enter Tryz.func134,Tryz.ntmps134;go_wp2_with (first|(go_at_call 194;refine(jY _ _ _ _ _ _ _).mono ?_;rintro e w' ⟨rfl,rfl⟩;rw[kP])|(go_at_call 195;refine(uf _ _ _).mono ?_;rintro e w' ⟨rfl,rfl⟩));go_ret;exact⟨dX (by simp[lU,kindOf]),by repeat (first|exact Below.refl _ _|refine abh ?_ (by simp) _)⟩
  ·by_cases A:l<=1
   ·cases z:Md now u
    ·have m:now<u:=by simp[Md]at z;omega
     have H:=acp m;clear m;go_enter Tryz.func134,Tryz.ntmps134;go_wp2_with (first|(go_at_call 194;refine(jY _ _ _ _ _ _ _).mono ?_;rintro e w' ⟨rfl,rfl⟩;rw[kP])|(go_at_call 195;refine(uf _ _ _).mono ?_;rintro e w' ⟨rfl,rfl⟩));go_ret;exact⟨dX (by have:=H.o;simp[lU, *]),by repeat (first|exact Below.refl _ _|refine abh ?_ (by simp) _)⟩
    ·have m:¬now<u:=by simp[Md]at z;omega
     have H:=acp m;clear m;go_enter Tryz.func134,Tryz.ntmps134;go_wp2_with (first|(go_at_call 194;refine(jY _ _ _ _ _ _ _).mono ?_;rintro e w' ⟨rfl,rfl⟩;rw[kP])|(go_at_call 195;refine(uf _ _ _).mono ?_;rintro e w' ⟨rfl,rfl⟩));go_ret;exact⟨dX (by have:=H.o;simp[lU,kindOf, *]),by repeat (first|exact Below.refl _ _|refine abh ?_ (by simp) _)⟩
   ·go_enter Tryz.func134,Tryz.ntmps134;go_wp2_with (first|(go_at_call 194;refine(jY _ _ _ _ _ _ _).mono ?_;rintro e w' ⟨rfl,rfl⟩;rw[kP])|(go_at_call 195;refine(uf _ _ _).mono ?_;rintro e w' ⟨rfl,rfl⟩));go_ret
    exact⟨dX (by have:¬l<=1:=by omega
                 simp[lU,kindOf,this]),by repeat (first|exact Below.refl _ _|refine abh ?_ (by simp) _)⟩
 ·have B:=(Iw k y).1;go_enter Tryz.func134,Tryz.ntmps134;go_wp2_with (first|(go_at_call 194;refine(jY _ _ _ _ _ _ _).mono ?_;rintro e w' ⟨rfl,rfl⟩)|(go_at_call 195;refine(uf _ _ _).mono ?_;rintro e w' ⟨rfl,rfl⟩));go_ret;exact⟨dX (by simp[lU,y]),by repeat (first|exact Below.refl _ _|refine abh ?_ (by simp) _)⟩
theorem TY(i k l s u:Int)(c:Bool)(m:Int)(w:World):
  Dy 139 #[.agg #[.int .i64 i,.int .i64 k,.int .i64 l,.int .i64 s,.int .u64 u,.bool c],.int .u64 m] w λ e w'=>e= .returned (.int .i64 (ug k u c m))/\Below w.heap.size w w':=by
 by_cases y:k=1
 ·subst y;cases c
  ·go_enter Tryz.func139,Tryz.ntmps139;go_wp2_with (first|(go_at_call 194;refine(jY _ _ _ _ _ _ _).mono ?_;rintro e w' ⟨rfl,rfl⟩;rw[kP])|(go_at_call 144;refine(sG _ _).mono ?_;rintro e w' ⟨rfl,rfl⟩));go_ret;exact⟨dX (by simp[ug]),by repeat (first|exact Below.refl _ _|refine abh ?_ (by simp) _)⟩
  ·by_cases z:m<u
   ·go_enter Tryz.func139,Tryz.ntmps139;go_wp2_with (first|(go_at_call 194;refine(jY _ _ _ _ _ _ _).mono ?_;rintro e w' ⟨rfl,rfl⟩;rw[kP])|(go_at_call 144;refine(sG _ _).mono ?_;rintro e w' ⟨rfl,rfl⟩));go_ret;exact⟨dX (by simp[ug, *]),by repeat (first|exact Below.refl _ _|refine abh ?_ (by simp) _)⟩
   ·by_cases C:m<=1099511627776
    ·have H:=acp z;go_enter Tryz.func139,Tryz.ntmps139;go_wp2_with (first|(go_at_call 194;refine(jY _ _ _ _ _ _ _).mono ?_;rintro e w' ⟨rfl,rfl⟩;rw[kP])|(go_at_call 144;refine(sG _ _).mono ?_;rintro e w' ⟨rfl,rfl⟩));go_ret
     exact⟨dX (by have:=H.o;have:¬1099511627776<m:=by omega
                  simp[ug, *]),by repeat (first|exact Below.refl _ _|refine abh ?_ (by simp) _)⟩
    ·have H:=acp z;have B:decide (m<=1099511627776)=false:=by simp;omega
     go_enter Tryz.func139,Tryz.ntmps139;go_wp2_with (first|(go_at_call 194;refine(jY _ _ _ _ _ _ _).mono ?_;rintro e w' ⟨rfl,rfl⟩;rw[kP])|(go_at_call 144;refine(sG _ _).mono ?_;rintro e w' ⟨rfl,rfl⟩));go_ret
     exact⟨dX (by have:=H.o;have:1099511627776<m:=by omega
                  simp[ug, *]),by repeat (first|exact Below.refl _ _|refine abh ?_ (by simp) _)⟩
 ·have A:=(Iw k y).2;go_enter Tryz.func139,Tryz.ntmps139;go_wp2_with (go_at_call 194;refine(jY _ _ _ _ _ _ _).mono ?_;rintro e w' ⟨rfl,rfl⟩);go_ret;exact⟨dX (by simp[ug,y]),by repeat (first|exact Below.refl _ _|refine abh ?_ (by simp) _)⟩
structure Mf where
 i:Int
 k:Int
 l:Int
 s:Int
 u:Int
 c:Bool
 er:Int
def cO(T:aS)(m:List Nm):Mf:=if (bG T m).2≠0 then⟨0,0,0,0,0,false,(bG T m).2⟩else match au (bG T m).1 T with|some x=>⟨(bG T m).1,x.kind,x.links,x.b.length,x.aL,x.closed,0⟩|none=>⟨0,0,0,0,0,false,0⟩
def Mf.cells(x:Mf):Array Value:= #[.int .i64 x.i,.int .i64 x.k,.int .i64 x.l,.int .i64 x.s,.int .u64 x.u,.bool x.c]
theorem EZ(T:aS)(m:List Nm):xJ T m=((cO T m).cells,(cO T m).er):=by
 unfold xJ cO;by_cases h:(bG T m).2≠0
 ·rw[if_pos h,if_pos h];rfl
 ·rw[if_neg h,if_neg h];cases au (bG T m).1 T<;>rfl
def jd(M:dQ)(m:List Nm):Int×dQ:=
 if (cO M.t m).er≠0 then((cO M.t m).er,M)else
 if lU (cO M.t m).k (cO M.t m).l (cO M.t m).u (cO M.t m).c M.now≠0 then(lU (cO M.t m).k (cO M.t m).l (cO M.t m).u (cO M.t m).c M.now,M)else
 ((dY M.t m).1,{M with t:=(dY M.t m).2})
section
variable{W w:World}{o:Mark}{i j k l p:Nat}{M:dQ}
theorem Mg{S:Nat->Prop}(C:bP o i j k w p M)(hM:Marks W o w)(hk:Mk i j k l)(Q:fA M.t)(a:Mx)(n c:Nat)(z:List Nm)(V:aW S w a n (z.map strOf))(aH:n<=c)(uJ:n<=1000000)(aD:(Lit.int .i64 (bG M.t z).1).wf=true):
  Dy 63 #[ptr p,.slice a n c] w (L9 o i j k l w p (jd M z)):=by
 have HN:=acp (Ir C hM Q a n c z V aD);rw[EZ]at HN;have aA:=acp hk;have h_:=acp Q;have J:=acp hM;have HS:=acp C;have bn:=acp V;have hr:jd M z=jd M z:=rfl
 conv at hr=>rhs;unfold jd
 have HR:=acp hr;clear C hM hk Q V aD hr;generalize cO M.t z=X at HN HR;obtain⟨xi,U,P,xs,Y,O,xe⟩:=X;unfold Mf.cells at HN;go_enter Tryz.func63,Tryz.ntmps63;go_wp2_with fail;refine HN.o.mono ?_;rintro e y ⟨rfl,F⟩;have bS:=acp F;have u:acr (Below w.heap.size w (y.alloc (.cells #[.int .i64 xi,.int .i64 U,.int .i64 P,.int .i64 xs,.int .u64 Y,.bool O] 36))):=acp (F.trans ((wall _ _).mono F.size));obtain⟨n1,n2,n3,n4,n5,n6,n7,n8,n9,bD⟩:=aA.o.ne;clear F HN;by_cases N:xe=0
 ·have HZ:=acp N;have aL:(xe==0)=true:=by simpa using N
  clear N;obtain⟨E,G⟩:∃E,E=y.alloc (.cells #[.int .i64 xi,.int .i64 U,.int .i64 P,.int .i64 xs,.int .u64 Y,.bool O] 36):=⟨_,rfl⟩;have Z:E.heap[y.heap.size]? =some (.cells #[.int .i64 xi,.int .i64 U,.int .i64 P,.int .i64 xs,.int .u64 Y,.bool O] 36 (0,0)):=by rw[G];exact(MapKept.heap_alloc y _).1
  rw[<-G]at u;have H:=HS.o.grow J.o u.o;have B:=J.o.step (I:=λ _=>False) (λ e=>e) (Step.grow J.o u.o);obtain⟨t,s,v,h1,h2,h3,h4⟩:=H.at_;have aB:=H.low;have HC:acr (∀w',Below E.heap.size E w'->w'.cell? ⟨y.heap.size,0,none⟩=some (.int .i64 xi)/\w'.cell? ⟨y.heap.size,1,none⟩=some (.int .i64 U)/\w'.cell? ⟨y.heap.size,2,none⟩=some (.int .i64 P)/\w'.cell? ⟨y.heap.size,3,none⟩=some (.int .i64 xs)/\w'.cell? ⟨y.heap.size,4,none⟩=some (.int .u64 Y)/\w'.cell? ⟨y.heap.size,5,none⟩=some (.bool O)/\w'.cell? ⟨p,2,none⟩=some (.int .u64 M.now)/\w'.cell? ⟨p,0,none⟩=some (ptr t)):=λ w' A=>by
   have e1:=(A.block _ (qW.1 Z).1).trans Z;have R:=(A.block _ aB).trans h1;refine⟨?_,?_,?_,?_,?_,?_,?_,?_⟩<;>simp[World.cell?,e1,R,Dq]
  have bf:acr (∀w',Below E.heap.size E w'->Dy 135 #[ptr t,.slice a n c] w' (L9 o i j k l w p ((dY M.t z).1,{M with t:=(dY M.t z).2}))):=λ w' A=>by
   have Er:=B.step (I:=λ _=>False) (λ e=>e) (Step.grow B A);have Gf:=H.grow B A;have aN:Step o (λ m=>m=i\/m=j\/m=k\/m=l) w o w':=(Step.grow J.o u.o).trans (Step.grow B A);have g1:=(A.block p aB).trans h1;have g2:=h2.grow B A;have g4:∀n,n<8->yM o w' (v n) (M.fds n):=λ n hn=>(h4 n hn).grow A;refine(Tj (h3.grow A) Er n2 h_.o a n c z (bn.o.below (u.o.trans (A.mono u.o.size)) acs) aH uJ).mono ?_;rintro e w4 ⟨rfl,o4,av,sP⟩;exact⟨rfl,o4,aN.trans (av.mono λ m hm=> .inr (.inl hm)),bP.tree (M:=M) aA.o g1 g2 g4 Gf.own Gf.low av sP⟩
  have XK:=G;clear h1 h2 h3 h4 Z H B G;go_wp2_with fail;rw[<-XK];clear XK;refine su ((λ w'=>w'.cell? ⟨y.heap.size,0,none⟩=some (.int .i64 xi)/\w'.cell? ⟨y.heap.size,1,none⟩=some (.int .i64 U)/\w'.cell? ⟨y.heap.size,2,none⟩=some (.int .i64 P)/\w'.cell? ⟨y.heap.size,3,none⟩=some (.int .i64 xs)/\w'.cell? ⟨y.heap.size,4,none⟩=some (.int .u64 Y)/\w'.cell? ⟨y.heap.size,5,none⟩=some (.bool O)/\w'.cell? ⟨p,2,none⟩=some (.int .u64 M.now)/\w'.cell? ⟨p,0,none⟩=some (ptr t))) ?_ λ C=> ?_
  ·exact HC.o _ acu.drew
  refine aM 0 C ?_;refine aM 1 C ?_;refine aM 2 C ?_;refine aM 3 C ?_;refine aM 4 C ?_;refine lJ 5 λ K hK=> ?_;go_simp;refine(Me xi U P xs Y O M.now _).mono ?_;rintro e w3 ⟨rfl,aC⟩;have D:acr (Below E.heap.size E w3):=acp (acu.drew.trans aC);have JK:=acp (HC.o _ D.o);have q0:=(HC.o _ D.o).2.2.2.2.2.2.2;have aF:=acp (bf.o _ D.o);obtain⟨re,ak⟩:∃re,re=lU U P Y O M.now:=⟨_,rfl⟩;rw[<-ak];have tO:=acp ak;clear ak aC;go_wp2_with fail;refine kV hK (JK.o) λ C=> ?_;clear hK K;refine aM 6 C ?_;refine rH ?_;clear C;by_cases hy:re=0
  ·have HY:=acp hy;have aJ:(re !=0)=false:=by simpa using hy
   clear hy;go_wp2_with fail;refine aF.o.mono ?_;rintro e w4 ⟨rfl,ho⟩;have HO:=acp ho;clear ho;go_wp2_with fail;go_ret;have R:jd M z=((dY M.t z).1,{M with t:=(dY M.t z).2}):=HR.o.trans ((if_neg (λ h=>h HZ.o)).trans (if_neg (λ h=>h (tO.o.symm.trans HY.o))));rw[R];exact⟨rfl,HO.o⟩
  ·have HY:=acp hy;have aJ:(re !=0)=true:=by simpa using hy
   clear hy;go_wp2_with fail;go_ret;have R:jd M z=(re,M):=HR.o.trans ((if_neg (λ h=>h HZ.o)).trans ((if_pos (λ h=>HY.o (tO.o.trans h))).trans (by rw[<-tO.o])));rw[R];have A:=u.o.trans (D.o.mono u.o.size);exact⟨rfl,o,Step.grow J.o A,HS.o.grow J.o A⟩
 ·have HZ:=acp N;have aL:(xe==0)=false:=by simpa using N
  have bq:(xe !=0)=true:=by simpa using N
  clear N;go_wp2_with fail;go_ret;have R:jd M z=(xe,M):=HR.o.trans (if_pos HZ.o);rw[R];exact⟨rfl,o,Step.grow J.o u.o,HS.o.grow J.o u.o⟩
end
def ng(M:dQ)(m:List Nm)(u:Int):Int×dQ:=
 if (cO M.t m).er≠0 then((cO M.t m).er,M)else
 if ug (cO M.t m).k (cO M.t m).u (cO M.t m).c u≠0 then(ug (cO M.t m).k (cO M.t m).u (cO M.t m).c u,M)else
 ((iX M.t (cO M.t m).i u).1,{M with t:=(iX M.t (cO M.t m).i u).2})
section
variable{W w:World}{o:Mark}{i j k l p:Nat}{M:dQ}
theorem T9{S:Nat->Prop}(D:bP o i j k w p M)(hM:Marks W o w)(hk:Mk i j k l)(ak:fA M.t)(a:Mx)(n c:Nat)(F:List Nm)(aA:aW S w a n (F.map strOf))(dG:n<=c)(uJ:n<=1000000)(aN:(Lit.int .i64 (bG M.t F).1).wf=true)(z:Int)(ht:0<=z/\z<=18446744073709551615)(aH:(Lit.int .i64 (cO M.t F).i).wf=true):
  Dy 67 #[ptr p,.slice a n c,.int .u64 z] w (L9 o i j k l w p (ng M F z)):=by
 have HN:=acp (Ir D hM ak a n c F aA aN);rw[EZ]at HN;have aD:=acp hk;have h_:=acp ak;have Q:=acp hM;have HS:=acp D;have dM:=acp aA;have hr:ng M F z=ng M F z:=rfl
 conv at hr=>rhs;unfold ng
 have HR:=acp hr;clear D hM hk ak aA aN hr;have aF:=acp aH;clear aH;generalize cO M.t F=X at HN HR aF;obtain⟨B,xk,xl,xs,xu,xc,xe⟩:=X;unfold Mf.cells at HN;go_enter Tryz.func67,Tryz.ntmps67;go_wp2_with fail;refine HN.o.mono ?_;rintro e y ⟨rfl,O⟩;have dn:=acp O;have u:acr (Below w.heap.size w (y.alloc (.cells #[.int .i64 B,.int .i64 xk,.int .i64 xl,.int .i64 xs,.int .u64 xu,.bool xc] 36))):=acp (O.trans ((wall _ _).mono O.size));obtain⟨n1,n2,n3,n4,n5,n6,n7,n8,n9,dK⟩:=aD.o.ne;clear O HN;by_cases U:xe=0
 ·have HZ:=acp U;have bD:(xe==0)=true:=by simpa using U
  clear U;obtain⟨N,P⟩:∃N,N=y.alloc (.cells #[.int .i64 B,.int .i64 xk,.int .i64 xl,.int .i64 xs,.int .u64 xu,.bool xc] 36):=⟨_,rfl⟩;have J:N.heap[y.heap.size]? =some (.cells #[.int .i64 B,.int .i64 xk,.int .i64 xl,.int .i64 xs,.int .u64 xu,.bool xc] 36 (0,0)):=by rw[P];exact(MapKept.heap_alloc y _).1
  rw[<-P]at u;have R:=HS.o.grow Q.o u.o;have C:=Q.o.step (I:=λ _=>False) (λ e=>e) (Step.grow Q.o u.o);obtain⟨t,s,v,h1,h2,h3,h4⟩:=R.at_;have Y:=R.low;have HC:acr (∀w',Below N.heap.size N w'->w'.cell? ⟨y.heap.size,0,none⟩=some (.int .i64 B)/\w'.cell? ⟨y.heap.size,1,none⟩=some (.int .i64 xk)/\w'.cell? ⟨y.heap.size,2,none⟩=some (.int .i64 xl)/\w'.cell? ⟨y.heap.size,3,none⟩=some (.int .i64 xs)/\w'.cell? ⟨y.heap.size,4,none⟩=some (.int .u64 xu)/\w'.cell? ⟨y.heap.size,5,none⟩=some (.bool xc)/\w'.cell? ⟨p,2,none⟩=some (.int .u64 M.now)/\w'.cell? ⟨p,0,none⟩=some (ptr t)):=λ w' A=>by
   have e1:=(A.block _ (qW.1 J).1).trans J;have H:=(A.block _ Y).trans h1;refine⟨?_,?_,?_,?_,?_,?_,?_,?_⟩<;>simp[World.cell?,e1,H,Dq]
  have cB:acr (∀w',Below N.heap.size N w'->Dy 140 #[ptr t,.int .i64 B,.int .u64 z] w' λ e G=>L9 o i j k l w p ((iX M.t B z).1,{M with t:=(iX M.t B z).2}) e G/\∀b,b<w'.heap.size->o b≠j->G.heap[b]? =w'.heap[b]?):=λ w' A=>by
   have Er:=C.step (I:=λ _=>False) (λ e=>e) (Step.grow C A);have Gf:=R.grow C A;have bS:Step o (λ m=>m=i\/m=j\/m=k\/m=l) w o w':=(Step.grow Q.o u.o).trans (Step.grow C A);have g1:=(A.block p Y).trans h1;have g2:=h2.grow C A;have g4:∀n,n<8->yM o w' (v n) (M.fds n):=λ n hn=>(h4 n hn).grow A;refine(om_keep (h3.grow A) Er n2 h_.o B z aF.o ht.1 ht.2).mono ?_;rintro e G ⟨rfl,o4,V,sP⟩;exact⟨⟨rfl,o4,bS.trans (V.mono λ m hm=> .inr (.inl hm)),bP.tree (M:=M) aD.o g1 g2 g4 Gf.own Gf.low V sP⟩,λ b bT hn=>V.block bT hn⟩
  have Gw:=acp (qW.1 J).1;have bq:acr (o y.heap.size=0):=acp (Wy λ h9=>by have:=(Q.o.new _ h9).2;have:=dn.o.size;omega);have XK:=P;clear h1 h2 h3 h4 J R C P;go_wp2_with fail;rw[<-XK];clear XK;refine(TY B xk xl xs xu xc z _).mono ?_;rintro e w3 ⟨rfl,Z⟩;have E:acr (Below N.heap.size N w3):=acp Z;obtain⟨r0,_,_,_,_,_,_,q0⟩:=HC.o _ Z;have bf:=acp (cB.o _ (E.o.trans acu.drew));have Gx:=acp (λ w' A=>HC.o w' (E.o.trans A));obtain⟨re,aB⟩:∃re,re=ug xk xu xc z:=⟨_,rfl⟩;rw[<-aB];have tO:=acp aB;clear aB Z;by_cases hy:re=0
  ·have HY:=acp hy;have bn:(re !=0)=false:=by simpa using hy
   clear hy;go_wp2_with fail;refine su ((λ w'=>(∃c,w'.cell? ⟨p,0,none⟩=some c)/\w'.cell? ⟨p,0,none⟩=some (ptr t)/\w'.cell? ⟨y.heap.size,0,none⟩=some (.int .i64 B))) ?_ λ D=> ?_
   ·exact⟨⟨_,q0⟩,q0,r0⟩
   refine aM 0 D ?_;refine aM 1 D ?_;refine aM 2 D ?_;refine aM 3 D ?_;refine aM 4 D ?_;refine aM 5 D ?_;refine aM 6 D ?_;refine lJ 7 λ K hK=> ?_;go_simp;refine bf.o.mono ?_;rintro e G ⟨⟨rfl,aC⟩,av⟩;have HO:=acp aC;have aJ:=av p (Pd Y E.o.size) (by rw[HS.o.own];exact λ e=>n8 e.symm);have AL:=av y.heap.size (Pd Gw.o E.o.size) (by rw[bq.o];exact λ e=>n2 e.symm);have JK:acr ((∃c,G.cell? ⟨p,0,none⟩=some c)/\G.cell? ⟨p,0,none⟩=some (ptr t)/\G.cell? ⟨y.heap.size,0,none⟩=some (.int .i64 B)):=by
    have e1:G.cell? ⟨p,0,none⟩=some (ptr t):=by
     have:G.cell? ⟨p,0,none⟩=w3.drew.cell? ⟨p,0,none⟩:=by simp only[World.cell?,aJ]
     rw[this];exact q0
    have H:G.cell? ⟨y.heap.size,0,none⟩=some (.int .i64 B):=by
     have:G.cell? ⟨y.heap.size,0,none⟩=w3.drew.cell? ⟨y.heap.size,0,none⟩:=by simp only[World.cell?,AL]
     rw[this];exact r0
    exact acp ⟨⟨_,e1⟩,e1,H⟩
   clear aC av aJ AL;go_wp2_with fail;refine kV hK (JK.o) λ D=> ?_;clear hK K;refine aM 8 D ?_;refine rH ?_;go_wp2_with fail;go_ret;have H:ng M F z=((iX M.t B z).1,{M with t:=(iX M.t B z).2}):=HR.o.trans ((if_neg (λ h=>h HZ.o)).trans (if_neg (λ h=>h (tO.o.symm.trans HY.o))));rw[H];exact⟨rfl,HO.o⟩
  ·have HY:=acp hy;have bn:(re !=0)=true:=by simpa using hy
   clear hy;go_wp2_with fail;go_ret;have H:ng M F z=(re,M):=HR.o.trans ((if_neg (λ h=>h HZ.o)).trans ((if_pos (λ h=>HY.o (tO.o.trans h))).trans (by rw[<-tO.o])));rw[H];have A:=u.o.trans (E.o.mono u.o.size);exact⟨rfl,o,Step.grow Q.o A,HS.o.grow Q.o A⟩
 ·have HZ:=acp U;have bD:(xe==0)=false:=by simpa using U
  have dI:(xe !=0)=true:=by simpa using U
  clear U;go_wp2_with fail;go_ret;have H:ng M F z=(xe,M):=HR.o.trans (if_pos HZ.o);rw[H];exact⟨rfl,o,Step.grow Q.o u.o,HS.o.grow Q.o u.o⟩
end
theorem Iy{T:aS}:∀(p:List Nm) (id:Int),(aP T id p).2≠0->(aP T id p).1=0
 |[],id,h=>absurd rfl h
 |n::r,id,h=>by
  unfold aP at h⊢;split
  ·rfl
  ·rename_i x y;rw[y]at h;dsimp only at h;split
   ·rename_i u;rw[if_pos u]at h;split
    ·rfl
    ·rename_i k m;rw[m]at h;exact Iy r k h
   ·rfl
theorem E5{T:aS}(B:fA T)(m:List Nm):0<=(bG T m).1/\(bG T m).1<=65535:=by
 unfold bG;by_cases z:bN m≠0
 ·rw[if_pos z];simp
 ·rw[if_neg z];by_cases y:(aP T 0 m).2=0
  ·have A:=qp (T:=T) (p:=m) (id:=(aP T 0 m).1) (abd rfl y) B;cases u:au (aP T 0 m).1 T with
   |none=>rw[u]at A;cases A
   |some x=>have:=B.ids _ x u;omega
  ·rw[Iy m 0 y];simp
theorem Ak{T:aS}(u:fA T)(m:List Nm):(Lit.int .i64 (bG T m).1).wf=true:=by
 have:=E5 u m;exact gG (by omega) (by omega)
theorem T_{T:aS}(u:fA T)(m:List Nm):(Lit.int .i64 (cO T m).i).wf=true:=by
 have:=E5 u m;unfold cO;split
 ·exact gG (by simp) (by simp)
 ·split
  ·exact gG (by simp;omega) (by simp;omega)
  ·exact gG (by simp) (by simp)
end Go.Proofs.YthillkfmdndedaaGreatDoor
namespace Go.Proofs
open Go.Shelf
def Tryz.BM:Go.Shelf.Ren:=⟨λ|4=>200|n=>n,λ|22=>198|25=>201|3=>3|4=>4|9=>9|20=>20|0=>0|n=>n,λ|n=>n⟩
theorem Tryz.growO:Go.Proofs.Lays8.n4 Tryz.prog Tryz.BM:={
 mixed:=by kernel_rfl
 f4:=⟨Tryz.f200.name,by decide,FR Tryz.func200 (by kernel_rfl)⟩
 t0:=Tryz.underlying0
 a0:=Tryz.isAgg0
 z0:=Tryz.sizeOf0
 v0:=Tryz.zeroValue0
 t3:=Tryz.underlying3
 a3:=Tryz.isAgg3
 z3:=Tryz.sizeOf3
 v3:=Tryz.zeroValue3
 t4:=Tryz.underlying4
 a4:=Tryz.isAgg4
 z4:=Tryz.sizeOf4
 v4:=Tryz.zeroValue4
 t9:=Tryz.underlying9
 a9:=Tryz.isAgg9
 z9:=Tryz.sizeOf9
 v9:=Tryz.zeroValue9
 t20:=Tryz.underlying20
 a20:=Tryz.isAgg20
 z20:=Tryz.sizeOf20
 v20:=Tryz.zeroValue20
 t22:=Tryz.underlying198
 a22:=Tryz.isAgg198
 z22:=Tryz.sizeOf198
 v22:=Tryz.zeroValue198}
end Go.Proofs
namespace Go.Proofs.YthillkfmdndedaaGreatDoor
open Go.ChangeShapes Go.WideShapes Go.ChangeAt Go.RowKit
theorem JL:(Tryz.prog.info? 201).map (λ i=>(i.zero,i.size,i.bytes))=some (some (.agg #[.int .i64 0,.slice none 0 0,.pointer none]),3,40):=by kernel_rfl
theorem Ua(n:Nat)(w:World)(F:n<=1000000):
  Dy 200 #[.slice none 0 0,.int .i64 n] w λ e w'=>∃v,e= .returned v/\w'.ownsRow w.heap.size 201 3 v 0 []/\Below w.heap.size w w':=by
 obtain⟨A,D,m,y,u⟩:=aaq JL;by_cases C:n=0
 ·subst C;refine(Any8.slices_Grow_room Tryz.growO none 0 0 0 w (by omega) (by omega) (by omega) (by omega)).mono ?_;rintro e w' ⟨rfl,rfl⟩;exact⟨_,rfl,⟨rfl,.inl ⟨rfl,rfl⟩⟩,Below.refl _ _⟩
 ·refine(Any8.slices_Grow_grow Tryz.growO A (.agg #[.int .i64 0,.slice none 0 0,.pointer none]) D m (by rw[y];omega) none 0 0 n [] w (by omega) (by omega) (by rw[u];omega) (by omega) (by simp) (λ _=>rfl) (λ a h=>by cases h)).mono ?_;rintro e w' ⟨rfl,rfl⟩;have E:=grownCap_ge w (0+n) 0 (Tryz.BM.t 25);have z:=grownCap_le_maxLen w (0+n) 0 (Tryz.BM.t 25) (by unfold maxLen;omega);refine⟨_,rfl,⟨rfl,.inr ⟨w.heap.size,_,_,rfl,Nat.le_refl _,(MapKept.heap_alloc w.drew _).1,Nat.zero_le _,z,?_,rfl⟩⟩,(acu.drew).alloc acs _⟩;have B:(Value.cells (.agg #[.int .i64 0,.slice none 0 0,.pointer none])).size=3:=rfl;simp only[Array.size_append,size_zeroCells,abR,List.length_nil,B];omega
theorem E8(m:List (List Value))(k:Nat)(u:List Value)(h:m[k]? =some u):(m.take (k+1)).flatten=(m.take k).flatten++u:=by
 obtain⟨y,e⟩:=aaj.1 h;rw[aai y,abE,e];simp
theorem XL(m:List (List Value))(k:Nat):(m.take k).flatten.length<=m.flatten.length:=by
 conv=>rhs;rw[<-aaT k m,abE]
 simp
def lu(m:List (List Value))(k:Nat):List Value:=(m.take k).flatten
def jN(m:List (List Value))(k:Nat):Nat:=(lu m k).length/3
theorem CV(m:List (List Value)):jN m 0=0:=by simp[jN,lu]
theorem Mh{S:Nat->Prop}(B n N:Nat)(m:List (List Value))(w:World)(hn:n=m.length)(aH:n<=1000)(hB:B<w.heap.size)(hN:m.flatten.length=N*3)(aD:N<=100000)
  (hc:∀k,k<n->∃a l c A,w.cell? ⟨B,k,none⟩=some (.slice a l c)/\ah S w a (l*3) A/\m[k]? =some A/\∀u∈A,u.oneCell'=true):
  Dy 143 #[.slice (some ⟨B,0,none⟩) n n] w λ e w'=>∃v,e= .returned v/\w'.ownsRow w.heap.size 201 3 v N m.flatten/\Below w.heap.size w w':=by
 obtain⟨i0,hi,X,aB,aA⟩:=aaq JL;have HN:=acp hn;have HC:=acp hc;have P:∀k,jN m k<=N:=λ k=>by have:=XL m k;unfold jN lu;omega
 obtain⟨fl,N_⟩:∃fl,fl=m.flatten:=⟨_,rfl⟩;have CB:=acp hN;rw[<-N_];have ak:=acp N_;clear hN N_;have W:=acp P;have hG:=Ua N w (by omega);have HG:=acp hG;clear hn hc P hG;go_enter Tryz.func143,Tryz.ntmps143;go_wp2
 go_loop [3,11] (λ s i=>∃k:Nat,k<=n/\i= .int .i64 k/\s= .int .i64 (jN m k)) (λ _ i=>n-(intOf i).toNat)
 case atStart=>exact⟨0,by omega,rfl,by rw[CV];rfl⟩
 case round=>
  obtain⟨k,hk,rfl,rfl⟩:=hrel;have av:=W.o k;by_cases G:k<n
  ·obtain⟨a,l,c,A,F,K,M,U⟩:=HC.o k G;have E:A.length=l*3:=K.length;have J:acr (jN m (k+1)=jN m k+l):=by
    have:jN m (k+1)=jN m k+l:=by
     unfold jN lu;rw[E8 m k A M,List.length_append,E];omega
    exact acp this
   have Q:jN m k+l<=100000:=by have:=J.o;have:=W.o (k+1);omega
   clear M K U;go_wp2
   go_round
   case rel=>exact⟨k+1,by omega,by go_num,by rw[J.o];go_num⟩
   case measure=>simp[intOf];omega
  ·obtain rfl:n=k:=by omega
   have Y:acr (lu m n=fl/\jN m n=N):=by
    have:m.take n=m:=List.take_of_length_le (by have:=HN.o;omega);unfold jN lu;rw[this];exact⟨ak.o.symm,by rw[CB.o];omega⟩
   rw[Y.o.2];go_wp2_with fail;refine HG.o.mono ?_;rintro e w1 ⟨v,rfl,y,R⟩;have aC:=acp R;have C:w1.ownsRow w.heap.size 201 3 v (jN m 0) (lu m 0):=by rw[CV];exact y
   have HO:=acp C;clear R y C HG;go_wp2_with fail
   go_loopw [6,27] (λ v i wr=>∃k:Nat,k<=n/\i= .int .i64 k/\wr.ownsRow w.heap.size 201 3 v (jN m k) (lu m k)/\Below w.heap.size w wr) (λ _ i _=>n-(intOf i).toNat)
   case atStart=>exact⟨0,by omega,rfl,HO.o,aC.o⟩
   case round=>
    obtain⟨k,hk,rfl,y,H⟩:=hrel;have V:=H.size;by_cases G:k<n
    ·obtain⟨a,l,c,A,z,K,M,U⟩:=HC.o k G;have F:=(H.cell (p:=⟨B,k,none⟩) hB).trans z;have E:A.length=l*3:=K.length;have J:acr (lu m (k+1)=lu m k++A/\jN m (k+1)=jN m k+l):=by
      have e1:lu m (k+1)=lu m k++A:=by unfold lu;exact E8 m k A M
      exact acp ⟨e1,by unfold jN;rw[e1,List.length_append,E];omega⟩
     have Q:jN m k+l<=100000:=by have:=J.o.2;have:=W.o (k+1);omega
     have HS:=acp (K.below H acs);have I:=acp y;have HB:=acp H;have H1:=acp U;clear M K y H z av E U;go_wp2_with (at_builtin;refine dU (by rfl) _ _ 198 (by rfl) w.heap.size 201 i0 _ 3 40 Tryz.underlying198 hi X aB aA rfl (by omega) _ _ _ (by rfl) I.o a l c A (by rfl) HS.o H1.o (by unfold maxLen;omega) (by omega) V ?_;intro A' c' w2 D O);have Nr:=acp D;have Z:=acp O;clear D O;go_roundw
     case rel=>
      refine⟨k+1,by omega,by go_num,?_,HB.o.trans Z.o⟩;rw[J.o.1,J.o.2];exact Nr.o
     case measure=>simp[intOf];omega
    ·obtain rfl:n=k:=by omega
     rw[Y.o.1,Y.o.2]at y;obtain⟨a,c,rfl,aF⟩:=Hu y;have I:=acp y;have HB:=acp H;clear y H;go_wp2;go_ret;exact⟨_,rfl,I.o,HB.o⟩
theorem Rj:(Tryz.prog.info? 3).map (λ i=>(i.zero,i.size,i.bytes))=some (some (.int .i64 0),1,8):=by kernel_rfl
def BN(x:fI)(now:Int):Bool:=decide (x.kind=1)&&x.closed&&decide (now<x.aL)
def oG(T:aS)(now:Int):List Int:=(T.filter λ q=>BN q.2 now).map (·.1)
theorem Pk{T:aS}{now:Int}{k:Nat}{q:Int×fI}(h:T[k]? =some q):oG (T.take (k+1)) now=oG (T.take k) now++if BN q.2 now then[q.1]else[]:=by
 obtain⟨m,e⟩:=aaj.1 h;unfold oG;rw[aai m,e,List.filter_append,aas];congr 1;by_cases u:BN q.2 now<;>simp[u]
theorem Ub(T:aS)(now:Int)(k:Nat):(oG (T.take k) now).length<=k:=by
 unfold oG;rw[List.length_map];refine Nat.le_trans (abq _ _) ?_;rw[List.length_take];omega
theorem Mi(m:List Int):∀u∈m.map (Value.int .i64),u.oneCell'=true:=by
 intro u y;obtain⟨x,_,rfl⟩:=List.mem_map.1 y;rfl
theorem Uc{w w':World}{u:Nat}{e:TypeId}{m:Nat}{v:Value}{n:Nat}{xs:List Value}{fp:Nat->Prop}(h:w.ownsRow u e m v n xs)(D:Keeps fp w w')(E:∀b,v.ownBlock=some b->¬fp b):w'.ownsRow u e m v n xs:=by
 refine⟨h.1,?_⟩;rcases h.2 with C|⟨g,y,z,rfl,B,A,r⟩
 ·exact .inl C
 ·exact .inr ⟨g,y,z,rfl,B,(D.block g (qW.1 A).1 (E g rfl)).trans A,r⟩
theorem DV{w:World}{m:Nat}{e:TypeId}{u:Nat}{v:Value}{n:Nat}{xs:List Value}(h:w.ownsRow m e u v n xs):∀b,v.ownBlock=some b->b<w.heap.size:=by
 intro b y;rcases h.2 with⟨rfl,_⟩|⟨g,B,A,rfl,_,z,_⟩
 ·cases y
 ·cases y;exact(qW.1 z).1
theorem uh{w w':World}{m:Nat}{e:TypeId}{u:Nat}{v:Value}{n:Nat}{xs:List Value}(h:w.ownsRow m e u v n xs)(z:Below w.heap.size w w'):w'.ownsRow m e u v n xs:=
 Uc h (Keeps.below z) λ b y A=>by have:=DV h b y;omega
section
variable{g:Nat->Own}{D:Nat->Prop}{p mb:Nat}{ib nb:Int->Nat}{T:aS}
theorem XM(now:Int)(w:World)(h:aK g D w p mb ib nb T)(hT:fA T):Dy 199 #[ptr p,.int .u64 now] w (zX w (oG T now)):=by
 obtain⟨ti,hi,aJ,bD,bq⟩:=aaq Rj;have cB:=hT.len;have HH:=acp h;have HT:=acp hT;have I:=acp (Jy w h (by omega));clear h hT;go_enter Tryz.func199,Tryz.ntmps199;go_wp2_with fail;refine I.o.mono ?_;rintro e J ⟨a,dn,rfl,av,hr,hB⟩;have aH:(lT T).length=T.length:=by unfold lT;rw[List.length_map]
 obtain⟨n,hn⟩:∃n,n=(lT T).length:=⟨_,rfl⟩;rw[<-hn]at av hr⊢;have bS:n<=64:=by omega
 have Z:acr (n=T.length):=by have:n=T.length:=by omega
                             exact this
 have HR:=acp hr;have HB:=acp hB;have Y:=hB.size;clear hn hr hB aH I;go_wp2_with fail
 go_loopw [5,16] (λ v i wr=>∃k:Nat,k<=n/\i= .int .i64 k/\wr.ownsRow J.heap.size 3 1 v (oG (T.take k) now).length ((oG (T.take k) now).map (Value.int .i64))/\Below J.heap.size J wr) (λ _ i _=>n-(intOf i).toNat)
 case atStart=>exact⟨0,by omega,rfl,⟨rfl,.inl ⟨rfl,rfl⟩⟩,Below.refl _ _⟩
 case round=>
  obtain⟨k,hk,rfl,Q,C⟩:=hrel;have S:=C.size;by_cases aD:k<n
  ·obtain⟨q,hq⟩:∃q,T[k]? =some q:=⟨_,List.getElem?_eq_getElem (by have:=Z.o;omega)⟩;obtain⟨j,x⟩:=q;obtain⟨bb,N,rfl,_,bf,A⟩:=HR.o.at_ (by omega);have ak:J.cell? ⟨bb,N+k,none⟩=some (.int .i64 j):=by
    rw[A k aD,List.getElem?_map];unfold lT;rw[List.getElem?_map,hq];rfl
   have dI:wr.cell? ⟨bb,N+k,none⟩=some (.int .i64 j):=(C.cell (p:=⟨bb,N+k,none⟩) bf).trans ak;have hx:au j T=some x:=fq iR HT.o.sorted (aaD hq);have rE:=HT.o.ids j x hx;have aL:=HB.o.trans (C.mono Y);have XO:=zO j wr (HH.o.below aL acs) (gG rE.1 (by omega));have aA:lS T j= .agg #[.int .i64 j,.int .i64 x.kind,.int .i64 x.links,.int .i64 x.b.length,.int .u64 x.aL,.bool x.closed]:=by unfold lS;rw[hx];rfl
   rw[aA,hx]at XO;have M:=acp XO;have W:=acp (Pk (now:=now) hq);have Dh:=acp (Ub T now k);have V:=acp Q;have uU:=acp C;clear XO aA hx A ak Q C rE hq;obtain⟨a5,c5,rfl,bT⟩:=bg V.o;by_cases H:BN x now=true
   ·have HL:=acp H;simp only[BN,aaW,aap]at H;obtain⟨⟨u,z⟩,O⟩:=H;have U:Md now x.aL=false:=by unfold Md;simp;omega
    have HD:=acp U;rw[z,u]at M;clear u z O U;go_wp2_with fail;refine M.o.mono ?_;rintro e B ⟨rfl,m⟩;have bn:=m.size;have P:Below wr.heap.size wr (B.alloc (.cells #[.int .i64 j,.int .i64 1,.int .i64 x.links,.int .i64 x.b.length,.int .u64 x.aL,.bool true] 36)):=m.trans ((wall _ _).mono bn);have G:Below wr.heap.size wr ((B.alloc (.cells #[.int .i64 j,.int .i64 1,.int .i64 x.links,.int .i64 x.b.length,.int .u64 x.aL,.bool true] 36)).alloc (.cells #[.int .i64 j] 3)):=P.trans ((wall _ _).mono P.size);have JI:=acp (uh V.o G);have dV:=acp (wY (w:=B.alloc (.cells #[.int .i64 j,.int .i64 1,.int .i64 x.links,.int .i64 x.b.length,.int .u64 x.aL,.bool true] 36)) (.int .i64 j) 3);rw[Pe]at dV;have dK:=acp G;have dM:=G.size;have dG:=Dh.o;clear m P G;go_wp2_with (first|(go_at_call 195;refine(uf _ _ _).mono ?_;rintro e w4 ⟨rfl,rfl⟩;rw[HD.o])|(at_builtin;refine bU (by rfl) _ _ 73 (by rfl) J.heap.size 3 ti (.int .i64 0) 8 Tryz.underlying73 hi aJ bD bq rfl _ _ _ (by rfl) JI.o (some ⟨B.heap.size+1,0,none⟩) 1 1 [.int .i64 j] (by rfl) dV.o (Mi [j]) (by unfold maxLen;omega) (by omega) (by omega) ?_;intro A' c' w6 F E9 _ _));have aB:=acp F;have aN:=acp E9;clear F E9;go_roundw
    case rel=>
     refine⟨k+1,by omega,by go_num,?_,?_⟩
     ·rw[W.o,HL.o,if_pos rfl,aas,List.length_append];exact aB.o
     ·exact(uU.o.trans (dK.o.mono S)).grown aN.o (by omega) (aZ JI.o)
    case measure=>simp[intOf];omega
   ·have HL:=acp H;have E:oG (T.take (k+1)) now=oG (T.take k) now:=by rw[W.o,if_neg H,aaz]
    have aF:=acp E;have K:∀B,Below wr.heap.size wr B->B.ownsRow J.heap.size 3 1 (.slice a5 (oG (T.take k) now).length c5) (oG (T.take (k+1)) now).length ((oG (T.take (k+1)) now).map (Value.int .i64))/\Below J.heap.size J B:=λ B C=>by
     rw[aF.o];exact⟨uh V.o C,uU.o.trans (C.mono S)⟩
    have Ud:=acp K;clear E K;by_cases u:x.kind=1
    ·cases z:x.closed with
     |true=>
      have U:Md now x.aL=true:=by
       by_cases O:now<x.aL
       ·exact absurd (by simp[BN,u,z,O]) H
       ·unfold Md;simp;omega
      have HD:=acp U;rw[z,u]at M;clear u z U H;go_wp2_with fail;refine M.o.mono ?_;rintro e B ⟨rfl,m⟩;have y:=acp m;clear m;go_wp2_with (go_at_call 195;refine(uf _ _ _).mono ?_;rintro e w4 ⟨rfl,rfl⟩;rw[HD.o]);go_roundw
      case rel=>
       obtain⟨R,X⟩:=Ud.o _ (y.o.trans ((wall _ _).mono y.o.size));exact⟨k+1,by omega,by go_num,R,X⟩
      case measure=>simp[intOf];omega
     |false=>
      rw[z,u]at M;clear u z H;go_wp2_with fail;refine M.o.mono ?_;rintro e B ⟨rfl,m⟩;have y:=acp m;clear m;go_wp2_with fail;go_roundw
      case rel=>
       obtain⟨R,X⟩:=Ud.o _ (y.o.trans ((wall _ _).mono y.o.size));exact⟨k+1,by omega,by go_num,R,X⟩
      case measure=>simp[intOf];omega
    ·have R:(x.kind==1)=false:=by simpa using u
     clear u H;go_wp2_with fail;refine M.o.mono ?_;rintro e B ⟨rfl,m⟩;have y:=acp m;clear m;go_wp2_with fail;go_roundw
     case rel=>
      obtain⟨R,X⟩:=Ud.o _ (y.o.trans ((wall _ _).mono y.o.size));exact⟨k+1,by omega,by go_num,R,X⟩
     case measure=>simp[intOf];omega
  ·obtain rfl:n=k:=by omega
   rw[List.take_of_length_le (by rw[Z.o];exact Nat.le_refl _)]at Q;obtain⟨a2,c2,rfl,aC⟩:=bg Q;have V:=acp Q;have uU:=acp C;clear Q C;go_wp2;go_ret;exact⟨a2,c2,rfl,aC,(ah.mU V.o).2.mono (λ b C=>⟨by omega,C.2⟩),HB.o.trans (uU.o.mono Y)⟩
theorem Ue(now:Int)(w:World)(h:aK g D w p mb ib nb T)(B:fA T):Dy 142 #[ptr p,.int .u64 now] w λ e w'=>e= .returned (.bool (decide (0<(oG T now).length)))/\Below w.heap.size w w':=by
 have u:=acp (XM now w h B);clear h B;obtain⟨y,m⟩:∃y,y=oG T now:=⟨_,rfl⟩;rw[<-m]at u⊢;clear m;go_enter Tryz.func142,Tryz.ntmps142;go_wp2_with fail;refine u.o.mono ?_;rintro e G ⟨a,E,rfl,A,C,z⟩;have F:=acp z;clear C z;go_wp2_with fail;go_ret;exact⟨iW (by simp),F.o⟩
end
section
variable{W w:World}{P:Nat->Prop}{p:Nat}{T:aS}
end
section
variable{w:World}{o:Mark}{i s:Nat}{S:qJ}
end
def Pm(T:aS)(now:Int):Bool:=decide (0<(oG T now).length)
def Uf(S:qJ)(k:Nat):qJ:=⟨S.l.take k++S.l.drop (k+1),S.next,S.last⟩
def JM(S:qJ)(id now m:Int)(S':qJ):Prop:=
 (m=29/\S'=S/\∀x∈S.l,x.id≠id)\/∃(k:Nat) (x:mP),S.l[k]? =some x/\x.id=id/\(∀u∈S.l.take k,u.id≠id)/\((Pm x.t now=true/\m=28/\S'=S)\/(Pm x.t now=false/\m=0/\S'=Uf S k))
theorem Ug{F:Nat->Prop}{w y:World}{b m n c k s:Nat}{vs:List Value}(h:ah F w (some ⟨b,m,none⟩) (n*s) vs)(H:k<n)(G:Below w.heap.size w y):
  ah F y (some ⟨b,m,none⟩) (k*s) (vs.take (k*s))/\ah F y (if c=k+1 then some ⟨b,m,none⟩else some ⟨b,m+(k+1)*s,none⟩) ((n-(k+1))*s) (vs.drop ((k+1)*s))\/c<n:=by
 by_cases B:c<n
 ·exact .inr B
 ·left;have E:=h.below G acs;have D:=E.take (k*s);have A:k*s<=n*s:=Nat.mul_le_mul_right s (by omega);rw[aa3 A]at D;have C:=E.drop ((k+1)*s);rw[<-Nat.sub_mul]at C;refine⟨D,?_⟩;by_cases u:c=k+1
  ·rw[if_pos u];have I:=h.length;have z:k+1=n:=by omega
   exact ah.zero _ _ _ (by rw[show n-(k+1)=0 by omega,Nat.zero_mul]) (by rw[z];exact List.drop_of_length_le (by omega))
  ·rw[if_neg u];exact C
theorem EJ.one{K:aS->Prop}{o:Mark}{w:World}{vs:List Value}{x:mP}(h:EJ K o w vs x):∀u∈vs,u.oneCell'=true:=by
 obtain⟨a,c,q,y,_⟩:=h;intro u m;rw[y]at m;simp only[List.mem_cons,aaX,abM]at m;rcases m with rfl|rfl|rfl<;>rfl
theorem iB.one{K:aS->Prop}{o:Mark}{w:World}:∀{vs:List Value} {l:List mP},iB K o w vs l->∀u∈vs,u.oneCell'=true
 |_,[],h=>by have y:_=[]:=h;rw[y];intro u m;cases m
 |_,x::r,⟨C,B,y,z,A⟩=>by
  intro u m;rw[y]at m;rcases aaA.1 m with m|m
  ·exact z.one u m
  ·exact iB.one A u m
theorem Uh(w:World)(x y:Value)(t:TypeId):(w.alloc (.cells #[x,y] t)).drew.cell? ⟨w.heap.size,0,none⟩=some x/\(w.alloc (.cells #[x,y] t)).drew.cell? ⟨w.heap.size,1,none⟩=some y/\w.heap.size<(w.alloc (.cells #[x,y] t)).drew.heap.size:=by
 have h:=(MapKept.heap_alloc w (.cells #[x,y] t)).1;have m:(w.alloc (.cells #[x,y] t)).drew.heap[w.heap.size]? =some (.cells #[x,y] t (0,0)):=h;refine⟨?_,?_,?_⟩
 ·unfold World.cell?;simp only[m];rfl
 ·unfold World.cell?;simp only[m];rfl
 ·exact(qW.1 m).1
section
variable{W w:World}{o:Mark}{i s:Nat}{S:qJ}
theorem Pn{A:World}{v v8:Value}{z:List Value}{k B J:Nat}{I:Mx}(U:Marks W o w)(R:i≠0)(Q:w.heap[s]? =some (.cells #[v,.int .i64 S.next,.slice I S.last.length J] 203 (0,0)))
  (F:o s=i)(C:s<w.heap.size)(O:BA o w z S.l)(K:S.last.length<=J)(N:ah (λ b=>o b=0/\b<w.heap.size) w I S.last.length (S.last.map bv))(H:Below w.heap.size w A)
  (u:A.ownsRow B 201 3 v8 (S.l.take k++S.l.drop (k+1)).length (z.take (k*3)++z.drop ((k+1)*3)))(hB:w.heap.size<=B):
  ∃E,Step o (λ j=>j=i) w E (A.setCell ⟨s,0,none⟩ v8)/\jD E i (A.setCell ⟨s,0,none⟩ v8) s (Uf S k):=by
 obtain⟨E,G,X,h2⟩:=cK U i (λ b=>v8.ownBlock=some b) (w':=A) (λ b m=>⟨by have:=aZ u b m;omega,iK u b m⟩) H;have D:¬(λ j=>j=i) 0:=λ e=>R e.symm;have V:A.heap[s]? =_:=(H.block s C).trans Q;have Z:=size_set A ⟨s,0,none⟩ v8;have y:Step o (λ j=>j=i) w E (A.setCell ⟨s,0,none⟩ v8):=by
  refine G.trans ⟨λ _ _=>rfl,λ b m Y=> ?_,(Keeps.jy A ⟨s,0,none⟩ v8).mono λ x _ M=>by
   have M:x=s:=M;rw[M];exact(G.old s C).trans F⟩
  have:=(G.new b (Nat.le_trans H.size m) Y).2;omega
 have P:Step o (λ j=>j=i) w E A:=G;refine⟨E,y,⟨v8,I,J,_,aG V,(y.old s C).trans F,by have:=H.size;omega,?_,λ b m=> ?_,iB.append ((O.take k).step D y) ((O.drop (k+1)).step D y),K,?_⟩⟩
 ·exact Ah (bK u λ b m _=>aI _ _ _ _ (by have:=aZ u b m;simp only;omega)) (Nat.zero_le _)
 ·exact⟨X b m,by have:=aZ u b m;omega,by have:=iK u b m;omega⟩
 ·exact N.move y.keep.size λ b m _=>⟨⟨(y.old b m.2).trans m.1,Pd m.2 y.keep.size⟩,y.block m.2 (by rw[m.1];exact D)⟩
theorem Po(y:jD o i w s S)(hM:Marks W o w)(hi:i≠0)(Bv:S.l.length<=8)(id now:Int):
  Dy 69 #[ptr s,.int .i64 id,.int .u64 now] w λ e w'=>∃er S' o',e= .returned (.int .i64 er)/\JM S id now er S'/\Step o (λ k=>k=i) w o' w'/\jD o' i w' s S':=by
 have HS:=acp y;have HM:=acp hM;obtain⟨v,la,lc,m,h1,h2,h3,h4,h5,h6,h7,h8⟩:=y.at_;obtain⟨a,c,rfl,aL⟩:=bg h4;obtain⟨-,-,N⟩:=ah.kg h4 (by unfold maxLen;omega);have HF:=acp (LH y id (by omega));have HH:=acp h1;have ZV:=acp h6;have bD:=acp h8;have Xy:=acp h7;have bS:=acp h2;have dV:=acp N;obtain⟨n,hn⟩:∃n,n=S.l.length:=⟨_,rfl⟩;have Y:=acp hn;rw[<-hn]at aL Bv;clear y hM h1 h2 h4 h5 h6 h7 h8 N hn;go_enter Tryz.func69,Tryz.ntmps69;go_wp2_with fail;refine HF.o.mono ?_;rintro e w1 ⟨v,rfl,hf,aJ⟩;have A:=acp aJ;clear aJ;rcases hf with⟨rfl,F⟩|⟨k,x,rfl,hx,aC,F⟩
 ·have Xg:=acp F;clear F;go_wp2_with fail;go_ret;exact⟨29,S,o,rfl,.inl ⟨rfl,rfl,Xg.o⟩,Step.grow HM.o A.o,HS.o.grow HM.o A.o⟩
 ·have bn:k<n:=by rw[Y.o];exact(aaj.1 hx).1
  have M:=dV.o;rw[<-Y.o]at M;obtain⟨g,B,rfl,bf,_,G⟩:=M.at_ (by omega);have bT:=acp M;obtain⟨ha,dI,q,e0,e1,e2,e3,e4,e5,e6⟩:=ZV.o.at_ hx;have d2:w1.cell? ⟨g,B+k*3+2,none⟩=some (ptr q):=(A.o.cell (p:=⟨g,B+k*3+2,none⟩) bf.2).trans ((G (k*3+2) (by omega)).trans e2);have aB:=A.o.block s h3;have c0:w1.cell? ⟨s,0,none⟩=some (.slice (some ⟨g,B,none⟩) n c):=by
   have:=aB.trans HH.o;rw[Y.o];simp[World.cell?,this]
  obtain⟨gg,D,mb,ib,nb,hA,Gh,Rk⟩:=e5.grow A.o;have xU:=acp (Ue now w1 hA e6);have E:=acp (And.intro hx (And.intro aC F));have dn:¬((k:Int)<0):=by omega
  have i0:(0:Int)<=k:=by omega
  have i1:(k:Int)<n:=by omega
  have dM:(k:Int)<=c:=by omega
  have i2:(k:Int)+1<=n:=by omega
  have i3:(0:Int)<=(k:Int)+1:=by omega
  have i4:(n:Int)<=c:=by omega
  have ew:IntKind.i64.wrap ((k:Int)+1)=(k:Int)+1:=aaf _ (by omega);clear hx aC F G e0 e1 e2 e3 e4 e5 e6 hA Gh Rk M aB;obtain⟨bd,U⟩:∃bd,bd=decide (0<(oG x.t now).length):=⟨_,rfl⟩;rw[<-U]at xU;have Iz:=acp U;clear U;cases bd with
  |true=>
   go_wp2_with fail;refine xU.o.mono ?_;rintro e O ⟨rfl,C⟩;have H:=acp C;clear C;go_wp2_with fail;go_ret;have hB:=A.o.trans (H.o.mono A.o.size);exact⟨28,S,o,rfl,.inr ⟨k,x,E.o.1,E.o.2.1,E.o.2.2,.inl ⟨Iz.o.symm,rfl,rfl⟩⟩,Step.grow HM.o hB,HS.o.grow HM.o hB⟩
  |false=>
   go_wp2_with fail;refine xU.o.mono ?_;rintro e O ⟨rfl,C⟩;have H:=acp (A.o.trans (C.mono A.o.size));have dG:=C.size;have dK:=A.o.size;have HK:acr (∀w',Below w.heap.size w w'->w'.cell? ⟨s,0,none⟩=some (.slice (some ⟨g,B,none⟩) n c)/\w'.frozen? ⟨s,0,none⟩=false):=λ w' hb=>by
    have:=(hb.block s h3).trans HH.o;rw[Y.o];refine⟨?_,?_⟩<;>simp[World.cell?,World.frozen?,this]
   clear c0 d2 C;go_wp2_with fail;refine vJ 18 ((λ w'=>w'.cell? ⟨s,0,none⟩=some (.slice (some ⟨g,B,none⟩) n c)/\w'.frozen? ⟨s,0,none⟩=false)) ?_ λ y=> ?_
   ·exact HK.o _ (H.o.trans acu.drew)
   refine aO 0 y ?_;refine aO 1 y ?_;refine aO 2 y ?_;refine aO 3 y ?_;refine aO 4 y ?_;refine aO 5 y ?_;refine aO 6 y ?_;refine aO 7 y ?_;refine aO 8 y ?_;refine aO 9 y ?_;refine aO 10 y ?_;refine aO 11 y ?_;refine aO 12 y ?_;refine aO 13 y ?_;obtain⟨A2,X⟩:∃A2:Mx,A2=if c=k+1 then some ⟨g,B,none⟩else some ⟨g,B+(k+1)*3,none⟩:=⟨_,rfl⟩;rw[<-X];have cB:=acp X;clear X;refine cu 14 λ K Q=> ?_;go_simp;have sO:Below O.heap.size O (O.alloc (.cells #[.slice (some ⟨g,B,none⟩) k c,.slice A2 (n-(k+1)) (c-(k+1))] 198)).drew:=(wall O _).trans acu.drew;have I:Below w.heap.size w (O.alloc (.cells #[.slice (some ⟨g,B,none⟩) k c,.slice A2 (n-(k+1)) (c-(k+1))] 198)).drew:=H.o.trans (sO.mono H.o.size);have ND:=acp I;obtain⟨aH,ak,aF⟩:=Uh O (.slice (some ⟨g,B,none⟩) k c) (.slice A2 (n-(k+1)) (c-(k+1))) 198;have J:=(Ug (c:=c) bT.o bn I).resolve_right (by omega);rw[<-cB.o]at J;have R:=ZV.o.one;have V:=ZV.o.len;have av:([m.take (k*3),m.drop ((k+1)*3)].flatten).length=(k+(n-(k+1)))*3:=by
    rw[<-Y.o]at V;simp[V];omega
   have JK:=acp (Mh (O.heap.size) 2 (k+(n-(k+1))) [m.take (k*3),m.drop ((k+1)*3)] _ rfl (by omega) aF av (by omega) (λ j hj=>by
    rcases j with _|_|j
    ·exact⟨_,_,_,_,aH,J.1,rfl,λ u hu=>R u (aaN hu)⟩
    ·exact⟨_,_,_,_,ak,J.2,rfl,λ u hu=>R u (abx hu)⟩
    ·omega))
   have sU:=acp sO;clear sO aH ak J R V av aF;refine b_ Q (HK.o _ I) λ y=> ?_;clear Q K;clear I;refine cu 15 λ K Q=> ?_;go_simp;refine JK.o.mono ?_;rintro e w3 ⟨v8,rfl,z,aA⟩;have aD:=acp (ND.o.trans (aA.mono ND.o.size));have Z:=acp z;obtain⟨a8,c8,rfl,-⟩:=bg z;clear z aA;go_wp2_with fail;refine b_ Q (HK.o _ aD.o) λ y=> ?_;clear Q K;refine aO 16 y ?_;refine aO 17 y ?_;refine cu 18 λ K Q=> ?_;go_simp;refine o_ Q ?_;clear y Q K;go_wp2_with fail;go_ret;have P:(S.l.take k++S.l.drop (k+1)).length=k+(n-(k+1)):=by
    have:=Y.o;rw[List.length_append,List.length_take,List.length_drop];omega
   have z:=Z.o;rw[<-P]at z;have bq:[m.take (k*3),m.drop ((k+1)*3)].flatten=m.take (k*3)++m.drop ((k+1)*3):=by simp
   rw[bq]at z;obtain⟨o',hs,aN⟩:=Pn (k:=k) HM.o hi HH.o bS.o h3 ZV.o Xy.o bD.o aD.o z ND.o.size;rw[P]at hs aN;exact⟨0,_,o',rfl,.inr ⟨k,x,E.o.1,E.o.2.1,E.o.2.2,.inr ⟨Iz.o.symm,rfl,rfl⟩⟩,hs,aN⟩
end
