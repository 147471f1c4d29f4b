/- Bits of a number: digits of base 128, the sign folded in. -/
import Derived.Lib.Zigzag
import Derived.IntWalk
import Derived.Test.YtagnicbknbmccaaGreatDoorMCwF
import Derived.Test.YtagnicbknbmccaaGreatDoorMNd
namespace Go.Proofs.YtagnicbknbmccaaGreatDoor
open Go.RowKit
theorem and127 (c:Nat) (hc:c<18446744073709551616):bits .and .u64 (c:Int) 127=((c % 128:Nat):Int):=by
 have h:=bits_mask .u64 64 (by decide) wraps_u64 7 (by decide) (c:Int) (by omega) (by omega)
 rw[show((2:Int)^7-1)=127 by rfl] at h
 rw[h]
 omega
theorem or_place (u m k:Nat) (hu:u<2^(7*k)) (hm:m*2^(7*k)<18446744073709551616) (hk:k≤9):bits .or .u64 (u:Int) ((m*2^(7*k):Nat):Int)=((u+m*2^(7*k):Nat):Int):=by
 have hp:2^(7*k)≤2^63:=Nat.pow_le_pow_right (by decide) (by omega)
 have h64:(u:Int)<2^64:=by rw[show(2:Int)^64=18446744073709551616 by rfl];omega
 have h65:((m*2^(7*k):Nat):Int)<2^64:=by rw[show(2:Int)^64=18446744073709551616 by rfl];omega
 have hpw:((2:Int)^(7*k))=((2^(7*k):Nat):Int):=by push_cast;rfl
 have h66:(u:Int)<2^(7*k):=by rw[hpw];omega
 have h67:((m*2^(7*k):Nat):Int) % 2^(7*k)=0:=by rw[hpw,←Int.natCast_emod,Nat.mul_mod_left];rfl
 have:=bits_join_low .u64 64 (by decide) wraps_u64 (7*k) (u:Int) ((m*2^(7*k):Nat):Int) (by omega) h66 h64 (by omega) h67 h65
 rw[this]
 push_cast
 rfl
theorem byte_step (un c kn:Nat) (hu:un<2^(7*kn)) (hc:c<256) (hk:kn≤9) (h9:kn=9→c≤1):
  bits .or .u64 (un:Int) (IntKind.u64.wrap (bits .and .u64 (c:Int) 127*2^(7*kn)))=((un+c % 128*2^(7*kn):Nat):Int):=by
 have hb:c % 128*2^(7*kn)<18446744073709551616:=by
  by_cases h:kn=9
  ·subst h
   have:=h9 rfl
   have:c % 128≤1:=by omega
   omega
  ·have hp:2^(7*kn)≤2^56:=Nat.pow_le_pow_right (by decide) (by omega)
   have:c % 128*2^(7*kn)≤127*2^56:=Nat.mul_le_mul (by omega) hp
   omega
 rw[and127 c (by omega),show(((c % 128:Nat):Int)*2^(7*kn))=((c % 128*2^(7*kn):Nat):Int) by push_cast;rfl,wraps_u64 _ (by omega) (by have:c % 128*2^(7*kn)<2^64:=hb;exact_mod_cast this)]
 exact or_place un (c % 128) kn hu hb hk
theorem byte_fits {un c kn:Nat} (hu:un<2^(7*kn)):un+c % 128*2^(7*kn)<2^(7*(kn+1)):=by
 have e:2^(7*(kn+1))=128*2^(7*kn):=by rw[Nat.mul_add,Nat.pow_add,Nat.mul_comm]
 have:c % 128*2^(7*kn)≤127*2^(7*kn):=Nat.mul_le_mul_right _ (by omega)
 omega
theorem byte_whole {un c kn:Nat} (hu:un<2^(7*kn)) (hk:kn≤9) (h9:kn=9→c≤1):un+c % 128*2^(7*kn)<18446744073709551616:=by
 by_cases h:kn=9
 ·subst h
  have:=h9 rfl
  have:c % 128≤1:=by omega
  omega
 ·have:=byte_fits (c:=c) hu
  have hp:2^(7*(kn+1))≤2^63:=Nat.pow_le_pow_right (by decide) (by omega)
  omega
theorem xor_zero64 (x:Int) (h0: -9223372036854775808≤x) (h1:x≤9223372036854775807):bits .xor .i64 x 0=x:=by
 show IntKind.i64.wrap ((BitVec.ofInt 64 x^^^BitVec.ofInt 64 0).toNat:Int)=_
 have e:BitVec.ofInt 64 0=0#64:=by decide
 rw[e,BitVec.xor_zero,BitVec.toNat_ofInt,IntKind.wrap_i64]
 omega
theorem xor_ones (x:Nat) (hx:x<9223372036854775808):bits .xor .i64 (x:Int) (-1)= -(x:Int)-1:=by
 rw[←Lib.i64_not x hx]
 show IntKind.i64.wrap ((BitVec.ofInt 64 (x:Int)^^^BitVec.ofInt 64 (-1)).toNat:Int)=IntKind.i64.wrap ((BitVec.ofInt 64 (-1)^^^BitVec.ofInt 64 (x:Int)).toNat:Int)
 rw[BitVec.xor_comm]
theorem unfold_law (U:Nat) (hU:U<18446744073709551616):bits .xor .i64 (wrap64 ((U:Int)/2)) (wrap64 (-wrap64 (bits .and .u64 (U:Int) 1)))=unfoldN U:=by
 rw[Lib.u64_and1 _ (by omega) (by omega)]
 have h2:wrap64 ((U:Int)/2)=((U/2:Nat):Int):=by unfold wrap64;omega
 rw[h2]
 unfold unfoldN
 by_cases h:U % 2=0
 ·rw[if_pos h,show wrap64 (-wrap64 ((U:Int) % 2))=0 by unfold wrap64;omega]
  exact xor_zero64 _ (by omega) (by omega)
 ·rw[if_neg h,show wrap64 (-wrap64 ((U:Int) % 2))= -1 by unfold wrap64;omega]
  exact xor_ones _ (by omega)
theorem unfold_law2 (U:Nat) (hU:U<18446744073709551616):bits .xor .i64 ((U:Int)/2) (wrap64 (-wrap64 (bits .and .u64 (U:Int) 1)))=unfoldN U:=by
 rw[←unfold_law U hU,show wrap64 ((U:Int)/2)=(U:Int)/2 by unfold wrap64;omega]
theorem fold_law (n:Int) (hn:okI n):bits .xor .u64 (IntKind.u64.wrap (IntKind.u64.wrap n*2)) (IntKind.u64.wrap (n/9223372036854775808))=foldN n:=by
 obtain⟨h0,h1⟩:=hn
 have hx:∀a b:Nat,a<2^64→b<2^64→bits .xor .u64 (a:Int) (b:Int)=((a^^^b:Nat):Int):=fun a b ha hb=>bits_xor_u64_nat a b ha hb
 by_cases h:0≤n
 ·obtain⟨m,rfl⟩:=Int.eq_ofNat_of_zero_le h
  rw[show((m:Int)/9223372036854775808)=0 by omega,show IntKind.u64.wrap 0=((0:Nat):Int) by decide,wraps_u64 (m:Int) (by omega) (by omega),show((m:Int)*2)=((2*m:Nat):Int) by push_cast;omega,wraps_u64 _ (by omega) (by omega),hx _ _ (by omega) (by omega),Nat.xor_zero]
  unfold foldN
  rw[if_pos h]
  omega
 ·have hz:=Lib.zigzag_neg (x:=n) h0 (by omega)
  have e1:IntKind.u64.wrap (IntKind.u64.wrap n*2)=(((2*n+18446744073709551616).toNat:Nat):Int):=by
   rw[IntKind.wrap_u64,IntKind.wrap_u64]
   omega
  have e2:IntKind.u64.max=((2^64-1:Nat):Int):=by decide
  rw[show n/9223372036854775808= -1 by omega,show IntKind.u64.wrap (-1)=((2^64-1:Nat):Int) by decide]
  rw[e1,e2,hx _ _ (by decide) (by omega),Nat.xor_comm] at hz
  rw[e1,hx _ _ (by omega) (by decide),hz]
  unfold Lib.zigzag foldN
  rw[if_neg h]
end Go.Proofs.YtagnicbknbmccaaGreatDoor
