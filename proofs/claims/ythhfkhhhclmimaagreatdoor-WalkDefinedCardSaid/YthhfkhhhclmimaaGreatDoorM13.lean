/- A part of WalkG. No condition. -/
import Derived.Laws.BitsAllLaws
set_option linter.unusedVariables false
set_option linter.unusedSimpArgs false
namespace Go.Proofs.dS
open Go
theorem hZ(n:Int):(BitVec.ofInt 64 n).toNat=(n % 18446744073709551616).toNat:=by
 rw[BitVec.toNat_ofInt];rfl
theorem KH(u j:Nat)(hj:j<=64)(hu:u<2 ^ 64):u &&& (2 ^ 64-2 ^ j)=u / 2 ^ j*2 ^ j:=by
 apply Nat.eq_of_testBit_eq
 intro i
 have e:2 ^ 64-2 ^ j=(2 ^ (64-j)-1) <<< j:=by
  rw[Nat.shiftLeft_eq,Nat.sub_mul,<- Nat.pow_add,Nat.one_mul,show 64-j+j=64 by omega]
 rw[e,Nat.testBit_and,Nat.testBit_shiftLeft,Nat.testBit_two_pow_sub_one,<- Nat.shiftRight_eq_div_pow,<- Nat.shiftLeft_eq,Nat.testBit_shiftLeft,Nat.testBit_shiftRight];by_cases h1:j<=i
 . rw[show j+(i-j)=i by omega]
   by_cases h2:i<64
   . have:i-j<64-j:=by omega
     simp[h1,this]
   . have h3:u.testBit i=false:=Nat.testBit_lt_two_pow (Nat.lt_of_lt_of_le hu (Nat.pow_le_pow_right (by omega) (by omega)))
     simp[h3]
 . simp[h1]
theorem uV(n:Int):IntKind.i64.wrap n=if n % 18446744073709551616<9223372036854775808 then n % 18446744073709551616 else n % 18446744073709551616-18446744073709551616:=by
 simp only[IntKind.wrap,IntKind.bits,IntKind.signed]
 show(if(true && decide _)=true then _ else _)=_
 by_cases h:n % 18446744073709551616<9223372036854775808
 . rw[if_pos h,if_neg]
   . rfl
   . simp
     show n % 18446744073709551616<9223372036854775808
     exact h
 . rw[if_neg h,if_pos]
   . rfl
   . simp
     show 9223372036854775808<=n % 18446744073709551616
     omega
theorem uW(n:Int)(h0 : -9223372036854775808<=n)(h1:n<=9223372036854775807):bits .andNot .i64 n 7=n-n % 8:=by
 show IntKind.i64.wrap ((BitVec.ofInt 64 n &&& ~~~BitVec.ofInt 64 ((7:Nat):Int)).toNat:Int)=_
 rw[BitVec.toNat_and,BitVec.toNat_not,hZ,hZ,show((((7:Nat):Int) % 18446744073709551616).toNat)=7 by rfl,show 2 ^ 64-1-7=2 ^ 64-2 ^ 3 by rfl,KH _ 3 (by omega) (by omega),uV]
 omega
theorem KJ(n:Int):bits .and .i64 n 1=n % 2:=by
 show IntKind.i64.wrap ((BitVec.ofInt 64 n &&& BitVec.ofInt 64 ((1:Nat):Int)).toNat:Int)=_
 rw[BitVec.toNat_and,hZ,hZ,show((((1:Nat):Int) % 18446744073709551616).toNat)=1 by rfl,nat_mask1,uV]
 omega
theorem OM(n:Int):bits .and .i64 n 255=n % 256:=by
 show IntKind.i64.wrap ((BitVec.ofInt 64 n &&& BitVec.ofInt 64 ((255:Nat):Int)).toNat:Int)=_
 rw[BitVec.toNat_and,hZ,hZ,show((((255:Nat):Int) % 18446744073709551616).toNat)=2 ^ 8-1 by rfl,Nat.and_two_pow_sub_one_eq_mod,uV]
 omega
theorem Tj(n:Int):bits .and .i64 n 2=n % 4 / 2*2:=by
 have h:=Nat.and_two_pow_sub_one_eq_mod ((n % 18446744073709551616).toNat / 2) 1
 show IntKind.i64.wrap ((BitVec.ofInt 64 n &&& BitVec.ofInt 64 ((2:Nat):Int)).toNat:Int)=_
 rw[BitVec.toNat_and,hZ,hZ,show((((2:Nat):Int) % 18446744073709551616).toNat)=2 ^ 1 by rfl,uV]
 have e:(n % 18446744073709551616).toNat &&& 2 ^ 1=(n % 18446744073709551616).toNat / 2 % 2*2:=by
  apply Nat.eq_of_testBit_eq
  intro i;rw[Nat.testBit_and,Nat.testBit_two_pow];by_cases hi:1=i
  . subst hi
    have:((n % 18446744073709551616).toNat / 2 % 2*2).testBit 1=decide ((n % 18446744073709551616).toNat / 2 % 2=1):=by
     rcases Nat.mod_two_eq_zero_or_one ((n % 18446744073709551616).toNat / 2)with h | h <;> rw[h] <;> decide
    rw[this,Nat.testBit_succ,Nat.testBit_zero];simp
  . have:((n % 18446744073709551616).toNat / 2 % 2*2).testBit i=false:=by
     rcases Nat.mod_two_eq_zero_or_one ((n % 18446744073709551616).toNat / 2)with h | h
     . rw[h];simp
     . rw[h,show 1*2=2 ^ 1 by rfl,Nat.testBit_two_pow];simp[hi]
    rw[this];simp[hi]
 rw[e];omega
end Go.Proofs.dS
