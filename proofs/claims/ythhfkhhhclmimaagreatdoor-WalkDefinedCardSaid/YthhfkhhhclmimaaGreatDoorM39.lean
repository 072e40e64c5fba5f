/- A part of WalkG. No condition. -/
import Derived.Lib.ItoaNum
set_option linter.unusedVariables false
set_option linter.unusedSimpArgs false
namespace Go.Proofs.dS
namespace TI
theorem FI(n k:Nat)(h:n<10 ^ (k+1)):(Lib.decDigits n).length<=k+1:=by
 induction k generalizing n with
 | zero=>rw[Lib.decDigits,dif_pos (by simpa using h)];simp
 | succ k ih =>
  by_cases h10:n<10
  . rw[Lib.decDigits,dif_pos h10];simp
  . rw[Lib.decDigits,dif_neg h10,List.length_append]
    have:=ih (n / 10) (by rw[Nat.pow_succ]at h;omega)
    simp;omega
theorem Mh(n:Int)(h0 : -9223372036854775808<=n)(h1:n<=9223372036854775807):(Lib.itoa n).length<=20:=by
 unfold Lib.itoa;split
 . have:=FI n.natAbs 18 (by omega)
   simp;omega
 . have:=FI n.toNat 18 (by omega)
   omega
end TI
end Go.Proofs.dS
