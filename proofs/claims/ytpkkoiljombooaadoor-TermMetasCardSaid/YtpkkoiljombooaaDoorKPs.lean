import Derived.Test.YtpkkoiljombooaaDoorKG0
import Derived.Test.YtpkkoiljombooaaDoorKG2
import Derived.Test.YtpkkoiljombooaaDoorKTl
import Derived.Test.YtpkkoiljombooaaDoorKPm
import Derived.Test.YtpkkoiljombooaaDoorKPt
set_option linter.unusedVariables false
set_option linter.unusedSimpArgs false
namespace Go.Proofs.YtpkkoiljombooaaDoor.G
open Go.RowKit Go.Proofs.YtpkkoiljombooaaDoorW.PrintWords Go.Proofs.YtpkkoiljombooaaDoorW.PrintLast
theorem nTs_append (a b : List Tm) : nTs (a ++ b) = nTs a + nTs b := by
 induction a with
 | nil => simp [nTs]
 | cons x a ih => simp only [List.cons_append, nTs, ih]; omega
theorem nTs_take (m : Nat) (a : List Tm) : nTs (a.take m) ≤ nTs a := by
 have := nTs_append (a.take m) (a.drop m)
 rw [List.take_append_drop] at this
 omega
theorem mt_size {d v m : Int} {t : Tm} (h : MT d v m t) : ∀ D : Nat, d ≤ D → nT t + 1 ≤ 2 ^ (D + 1) := by
 induction h with
 | @lam d v m n a hd hn ha ih =>
  intro D hD
  obtain ⟨E, rfl⟩ : ∃ E, D = E + 1 := ⟨D - 1, by omega⟩
  have := ih E (by omega)
  simp only [nT, nTs, Nat.add_zero]
  rw [Nat.pow_succ]
  omega
 | @app d v m k n i ts hk hl h0 ht ih =>
  intro D hD
  by_cases hts : ts = []
  ·subst hts
   simp only [nT, nTs]
   have : 2 ^ 1 ≤ 2 ^ (D + 1) := Nat.pow_le_pow_right (by omega) (by omega)
   omega
  ·have hd := h0 hts
   obtain ⟨E, rfl⟩ : ∃ E, D = E + 1 := ⟨D - 1, by omega⟩
   have hb : ∀ a ∈ ts, nT a ≤ 2 ^ (E + 1) - 1 := fun a ha => by have := ih a ha E (by omega); omega
   have h1 := nTs_le hb
   have hp : 1 ≤ 2 ^ (E + 1) := Nat.one_le_two_pow
   have h2 : ts.length * (2 ^ (E + 1) - 1) ≤ 2 * (2 ^ (E + 1) - 1) := Nat.mul_le_mul_right _ hl
   simp only [nT]
   rw [Nat.pow_succ 2 (E + 1)]
   omega
end Go.Proofs.YtpkkoiljombooaaDoor.G
