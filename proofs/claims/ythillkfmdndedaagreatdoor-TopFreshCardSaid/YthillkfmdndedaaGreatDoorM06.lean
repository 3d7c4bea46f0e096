/- string(b) -/
import Derived.Test.YthillkfmdndedaaGreatDoorM02
import Derived.Laws.IdiomStrings
import Derived.Lib.BufferRead
import Derived.Test.YthillkfmdndedaaGreatDoorM05
set_option maxRecDepth 100000
set_option maxHeartbeats 64000000
set_option linter.all false
namespace Go.Proofs.YthillkfmdndedaaGreatDoor
open Go.ChangeShapes Go.WideShapes Go.ChangeAt Go.RowKit
def strOf(l:I8):ByteArray:=⟨l.toArray⟩
theorem jf(a:I8):(strOf a).size=a.length:=by simp[strOf,ByteArray.size]
theorem Ea(a:I8):(strOf a).toList=a:=by rw[abD];simp[strOf]
theorem KL{a b:I8}(h:a≠b):¬(strOf a).toList=(strOf b).toList/\((strOf a).toList==(strOf b).toList)=false:=by
 rw[Ea,Ea];exact⟨h,by simpa using h⟩
theorem gQ{S:Nat->Prop}{w:World}{a:Mx}{n c:Nat}{u:I8}(h:ah S w a n (u.map bv)):(convert 30 9 (.slice a n c)).run Tryz.prog w= .ok (.string (strOf u)) w:=by
 have y:=h.length;rw[List.length_map]at y;rcases a with _|B
 ·have m:n=0:=by
   rcases aaI n with m|m
   ·exact m
   ·obtain⟨_,_,e,_⟩:=h.at_ m;cases e
  subst m;have:u=[]:=aac y;subst this;have:=Go.Lib.run_convert_nil_bytes (P:=Tryz.prog) w 30 9 5 c Tryz.underlying30 aa7 aa8;exact this
 ·subst y;refine run_convert_bytes_back w 30 9 5 B c u Tryz.underlying30 aa7 aa8 (λ j z=> ?_);obtain⟨b,C,e,_,_,A⟩:=h.at_ (by omega);simp only[aae]at e;subst e;rw[add_plain,A j z,List.getElem?_map,List.getElem?_eq_getElem z];rfl
theorem VK:∀a:I8,bytesBefore a a=false
 |[]=>rfl
 |x::r=>by simp[bytesBefore,VK r]
theorem KM:∀a b c:I8,bytesBefore a b=true->bytesBefore b c=true->bytesBefore a c=true
 |[],[],_,h,_=>by simp[bytesBefore]at h
 |[],_::_,[],_,h=>by simp[bytesBefore]at h
 |[],_::_,_::_,_,_=>by simp[bytesBefore]
 |_::_,[],_,h,_=>by simp[bytesBefore]at h
 |_::_,_::_,[],_,h=>by simp[bytesBefore]at h
 |x::r,y::s,z::t,h,k=>by
  simp only[bytesBefore,abH,aaW,aap,beq_iff_eq,UInt8.lt_iff_toNat_lt,<-abI]at*;rcases h with h|⟨h,m⟩<;>rcases k with k|⟨k,k'⟩
  ·exact .inl (by omega)
  ·exact .inl (by omega)
  ·exact .inl (by omega)
  ·exact .inr ⟨by omega,KM r s t m k'⟩
theorem VL:∀a b:I8,a≠b->bytesBefore a b=true\/bytesBefore b a=true
 |[],[],h=>absurd rfl h
 |[],_::_,_=>by simp[bytesBefore]
 |_::_,[],_=>by simp[bytesBefore]
 |x::r,y::s,h=>by
  simp only[bytesBefore,abH,aaW,aap,beq_iff_eq,UInt8.lt_iff_toNat_lt];rcases Nat.lt_trichotomy x.toNat y.toNat with m|m|m
  ·exact .inl (.inl m)
  ·have e:x=y:=abI.1 m;subst e;rcases VL r s (λ e=>h (by rw[e]))with u|u
   ·exact .inl (.inr ⟨rfl,u⟩)
   ·exact .inr (.inr ⟨rfl,u⟩)
  ·exact .inr (.inl m)
theorem Sd:qh bytesBefore:=⟨VK,KM,VL⟩
def dD:AZ Tryz.prog 9 (I8) where
 lit x:= .string x
 val x:= .string (strOf x)
 ok x:=x.length<=maxLen
 lt:=bytesBefore
 law:=Go.Maps.string_keyed aa8
 of x h:=Go.WideMaps.keyOf_string_mk aa8 (by rw[jf];exact h)
 inv v kl h:=by
  obtain⟨s,rfl,rfl,m⟩:=Go.WideMaps.string_of_keyOf aa8 h;exact⟨s.data.toList,by simp[strOf],rfl,by show s.data.toList.length<=maxLen;rw[Array.length_toList];exact m⟩
 same a b:=by by_cases h:a=b<;>simp[Lit.sameKey,h]
 before a b:=rfl
 isKey a:=by exact trivial
