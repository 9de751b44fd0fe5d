import Derived.Test.YtpkkoiljombooaaDoorKG0
import Derived.Test.YtpkkoiljombooaaDoorKG4
import Derived.Test.YtpkkoiljombooaaDoorKG5
import Derived.Test.YtpkkoiljombooaaDoorKG6
import Derived.Test.YtpkkoiljombooaaDoorKG7
import Derived.Test.YtpkkoiljombooaaDoorKH1
import Derived.Test.YtpkkoiljombooaaDoorKH2
import Derived.Test.YtpkkoiljombooaaDoorKH3
import Derived.Test.YtpkkoiljombooaaDoorKSp
set_option linter.unusedVariables false
set_option linter.unusedSimpArgs false
namespace Go.Proofs.YtpkkoiljombooaaDoor.G
open Go.RowKit Go.Proofs.YtpkkoiljombooaaDoorW.PrintWords Go.Proofs.YtpkkoiljombooaaDoorW.PrintLast
theorem Ev.pos {α : Type} {c : Prop} [Decidable c] {f g : Nat → Option α} {r : α} (hc : c) (h : Ev f r) : Ev (fun k => if c then f k else g k) r := Ev.congr (fun _ => if_pos hc) h
theorem Ev.neg {α : Type} {c : Prop} [Decidable c] {f g : Nat → Option α} {r : α} (hc : ¬ c) (h : Ev g r) : Ev (fun k => if c then f k else g k) r := Ev.congr (fun _ => if_neg hc) h
theorem Ev.up {α : Type} {g : Nat → Option α} {r : α} (h : Ev (fun k => g (k + 1)) r) : Ev g r := Ev.step (fun _ => rfl) h
theorem w64_in {n : Int} (h0 : -9223372036854775808 ≤ n) (h1 : n ≤ 9223372036854775807) : wrap64 n = n := by unfold wrap64; omega
mutual
def nT : Tm → Nat
 | ⟨_, _, _, ts⟩ => nTs ts + 1
def nTs : List Tm → Nat
 | [] => 0
 | a :: ts => nT a + nTs ts
end
theorem nT_eq (t : Tm) : nT t = nTs t.f3 + 1 := by cases t; simp [nT]
theorem nT_pos (t : Tm) : 0 < nT t := by rw [nT_eq]; omega
theorem nTs_mem {ts : List Tm} {a : Tm} (h : a ∈ ts) : nT a ≤ nTs ts := by
 induction ts with
 | nil => cases h
 | cons b bs ih =>
  simp only [nTs]
  cases h with
  | head => omega
  | tail _ h => have := ih h; omega
theorem nTs_len (ts : List Tm) : ts.length ≤ nTs ts := by
 induction ts with
 | nil => simp [nTs]
 | cons b bs ih => have := nT_pos b; simp only [nTs, List.length_cons]; omega
theorem nTs_le {ts : List Tm} {B : Nat} (h : ∀ a ∈ ts, nT a ≤ B) : nTs ts ≤ ts.length * B := by
 induction ts with
 | nil => simp [nTs]
 | cons b bs ih =>
  simp only [nTs, List.length_cons, Nat.succ_mul]
  have h1 := h b (by simp)
  have h2 := ih (fun a ha => h a (by simp [ha]))
  omega
mutual
theorem fit_nT : ∀ (t : Tm), nT t ≤ 4611686018427387904 → fitT t = true
 | ⟨k, n, i, ts⟩, h => by
  simp only [nT] at h
  have := nTs_len ts
  simp only [fitT, Bool.and_eq_true, decide_eq_true_eq]
  exact ⟨by omega, fit_nTs ts (by omega)⟩
theorem fit_nTs : ∀ (ts : List Tm), nTs ts ≤ 4611686018427387904 → fitL ts = true
 | [], _ => rfl
 | a :: ts, h => by
  simp only [nTs] at h
  simp only [fitL, Bool.and_eq_true]
  exact ⟨fit_nT a (by omega), fit_nTs ts (by omega)⟩
end
abbrev okN (t : Tm) : Prop := nT t ≤ 1000000
theorem okN_arg {t a : Tm} (h : okN t) (ha : a ∈ t.f3) : okN a := by
 have := nTs_mem ha; unfold okN at *; rw [nT_eq] at h; omega
theorem okN_fit {t : Tm} (h : okN t) : fitT t = true := fit_nT t (by unfold okN at h; omega)
theorem rd_at (l : List Tm) (k : Nat) (hk : k < l.length) : rd_T25 l (k : Int) = l[k] := mem_rd hk
theorem two_of {ts : List Tm} (h : ts.length = 2) : ∃ a b, ts = [a, b] := by
 match ts, h with
 | [a, b], _ => exact ⟨a, b, rfl⟩
end Go.Proofs.YtpkkoiljombooaaDoor.G
