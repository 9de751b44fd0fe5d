import Derived.Test.YtpkkoiljombooaaDoorKG0
import Derived.Test.YtpkkoiljombooaaDoorKG2
import Derived.Test.YtpkkoiljombooaaDoorKTl
import Derived.Test.YtpkkoiljombooaaDoorKPm
import Derived.Test.YtpkkoiljombooaaDoorKPt
import Derived.Test.YtpkkoiljombooaaDoorKG6
import Derived.Test.YtpkkoiljombooaaDoorKH1a
import Derived.Test.YtpkkoiljombooaaDoorKSp
import Derived.Test.YtpkkoiljombooaaDoorKH3a
import Derived.Test.YtpkkoiljombooaaDoorKH3b
import Derived.Test.YtpkkoiljombooaaDoorKWMore
import Derived.Laws.EntriesVeiled
import Derived.RangeFuncNested
import Derived.RangeFuncBound
import Derived.RangeFuncCalls
import Derived.RangeFuncLeaves
import Derived.RangeFuncFrom
import Derived.RangeFuncBox
import Derived.Shelf.Abstract
import Derived.Shelf.RegionOpen
import Derived.WalkKit
import Derived.OwnWalkIn
import Derived.TacticsInMore
import Derived.LoopNIn
import Derived.LoopIn
import Derived.Lib.Hide
import Derived.BigQuiet
import Derived.Deep.QuietTactic
set_option linter.unusedVariables false
set_option linter.unusedSimpArgs false
namespace Go.Proofs.YtpkkoiljombooaaDoor.G
open Go.RowKit Go.Proofs.YtpkkoiljombooaaDoorW.PrintWords Go.Proofs.YtpkkoiljombooaaDoorW.PrintLast
theorem mt_size {d v m : Int} {t : Tm} (h : MT d v m t) : ∀ D : Nat, d ≤ D → nT t + 1 ≤ 2 ^ (D + 1) := by
 induction h with
 | @lam d v m n a hd hn ha ih =>
  intro D hD
  obtain ⟨E, rfl⟩ : ∃ E, D = E + 1 := ⟨D - 1, by omega⟩
  have := ih E (by omega)
  simp only [nT, nTs, Nat.add_zero]
  rw [Nat.pow_succ]
  omega
 | @app d v m k n i ts hk hl h0 ht ih =>
  intro D hD
  by_cases hts : ts = []
  ·subst hts
   simp only [nT, nTs]
   have : 2 ^ 1 ≤ 2 ^ (D + 1) := Nat.pow_le_pow_right (by omega) (by omega)
   omega
  ·have hd := h0 hts
   obtain ⟨E, rfl⟩ : ∃ E, D = E + 1 := ⟨D - 1, by omega⟩
   have hb : ∀ a ∈ ts, nT a ≤ 2 ^ (E + 1) - 1 := fun a ha => by have := ih a ha E (by omega); omega
   have h1 := nTs_le hb
   have hp : 1 ≤ 2 ^ (E + 1) := Nat.one_le_two_pow
   have h2 : ts.length * (2 ^ (E + 1) - 1) ≤ 2 * (2 ^ (E + 1) - 1) := Nat.mul_le_mul_right _ hl
   simp only [nT]
   rw [Nat.pow_succ 2 (E + 1)]
   omega
theorem my_size {d v m : Int} {t : Tm} (h : MY d v m t) : ∀ D : Nat, d ≤ D → nT t + 1 ≤ 2 ^ (D + 1) := by
 induction h with
 | @pi d v m n a b hd hn ha hb iha ihb =>
  intro D hD
  obtain ⟨E, rfl⟩ : ∃ E, D = E + 1 := ⟨D - 1, by omega⟩
  have h1 := iha E (by omega)
  have h2 := ihb E (by omega)
  simp only [nT, nTs, Nat.add_zero]
  rw [Nat.pow_succ]
  omega
 | @con d v m n ts hn hl h0 ht =>
  intro D hD
  by_cases hts : ts = []
  ·subst hts
   simp only [nT, nTs]
   have : 2 ^ 1 ≤ 2 ^ (D + 1) := Nat.pow_le_pow_right (by omega) (by omega)
   omega
  ·have hd := h0 hts
   obtain ⟨E, rfl⟩ : ∃ E, D = E + 1 := ⟨D - 1, by omega⟩
   have hb : ∀ a ∈ ts, nT a ≤ 2 ^ (E + 1) - 1 := fun a ha => by have := mt_size (ht a ha) E (by omega); omega
   have h1 := nTs_le hb
   have hp : 1 ≤ 2 ^ (E + 1) := Nat.one_le_two_pow
   have h2 : ts.length * (2 ^ (E + 1) - 1) ≤ 2 * (2 ^ (E + 1) - 1) := Nat.mul_le_mul_right _ hl
   simp only [nT]
   rw [Nat.pow_succ 2 (E + 1)]
   omega
theorem mk_size {d : Int} {c : Nat} {t : Tm} (h : MK d c t) (D : Nat) (hD : d ≤ D + 1) : nT t ≤ 1 + c * 2 ^ (D + 1) := by
 induction h with
 | sort => simp only [nT, nTs]; omega
 | @pi c a b ha hb ih =>
  have h1 := my_size ha D (by omega)
  simp only [nT, nTs, Nat.add_zero, Nat.succ_mul]
  omega
theorem ma_size {v m : Int} {t : Tm} (h : MA 4 v m t) : nT t ≤ 33 := by
 rcases h with h | h | h
 ·have := my_size h 4 (by omega); simp at this; omega
 ·have := mk_size h 3 (by omega); simp at this; omega
 ·have := mt_size h 4 (by omega); simp at this; omega
end Go.Proofs.YtpkkoiljombooaaDoor.G
set_option linter.unusedVariables false
namespace Go.Proofs.YtpkkoiljombooaaDoor.G
open Go.RowKit Go.Proofs.YtpkkoiljombooaaDoorW.PrintWords Go.Proofs.YtpkkoiljombooaaDoorW.PrintLast Go.Proofs.YtpkkoiljombooaaDoorW.PrintMore
attribute [local go_sem] Oper.semAt_some max2_int min2_int max_two min_two
def scopeStep (n : Int) (x : Nd) : Int := if x.2.1 = 5 then mx n (wrap64 (wrap64 (x.2.2.2 - x.1) + 1)) else n
def scopeW (t : Tm) : Int := (nodesT 0 t).foldl scopeStep 0
def term_Scope.f (k : Nat) (a0_0 : Int) (a0_1 : ByteArray) (a0_2 : Int) (l0_3 : List Tm) : Option Int :=
 (term_WellFormed.f k a0_0 a0_1 a0_2 l0_3).bind fun e => if fitT ⟨a0_0, a0_1, a0_2, l0_3⟩ then (if e = 0 then some (scopeW ⟨a0_0, a0_1, a0_2, l0_3⟩) else some 0) else none
end Go.Proofs.YtpkkoiljombooaaDoor.G
set_option linter.unusedVariables false
namespace Go.Proofs.YtpkkoiljombooaaDoor.G
open Go.RowKit Go.Proofs.YtpkkoiljombooaaDoorW.PrintWords Go.Proofs.YtpkkoiljombooaaDoorW.PrintLast Go.Proofs.YtpkkoiljombooaaDoorW.PrintMore
attribute [local go_sem] Oper.semAt_some
def isVar (i : Int) (x : Nd) : Bool := decide (x.2.1 = 5) && decide (wrap64 (x.2.2.2 - x.1) = i)
def occursW (t : Tm) (i : Int) : Bool := (nodesT 0 t).any (isVar i)
def term_Occurs.f (k : Nat) (a0_0 : Int) (a0_1 : ByteArray) (a0_2 : Int) (l0_3 : List Tm) (a1 : Int) : Option Bool :=
 (term_WellFormed.f k a0_0 a0_1 a0_2 l0_3).bind fun e => if fitT ⟨a0_0, a0_1, a0_2, l0_3⟩ then (if e = 0 ∧ 0 ≤ a1 then some (occursW ⟨a0_0, a0_1, a0_2, l0_3⟩ a1) else some false) else none
end Go.Proofs.YtpkkoiljombooaaDoor.G
set_option linter.unusedVariables false
set_option linter.unusedSimpArgs false
namespace Go.Proofs.YtpkkoiljombooaaDoor.G
open Go.RowKit Go.Proofs.YtpkkoiljombooaaDoorW.PrintWords Go.Proofs.YtpkkoiljombooaaDoorW.PrintLast
theorem binder_ok {n : ByteArray} (h : n ∈ namesL) : binderName n = true := by
 simp only [namesL, List.mem_cons, List.not_mem_nil, or_false] at h
 rcases h with rfl | rfl | rfl | rfl | rfl | rfl <;> kernel_rfl
theorem cname_ok {n : ByteArray} (h : n ∈ ([⟨#[122]⟩, ⟨#[115]⟩, ⟨#[99]⟩, ⟨#[97, 112, 112]⟩] : List ByteArray)) : isNameB n = true := by
 simp only [List.mem_cons, List.not_mem_nil, or_false] at h
 rcases h with rfl | rfl | rfl | rfl <;> kernel_rfl
theorem objsB_of {ts : List Tm} (h : ∀ a ∈ ts, objB a = true) : objsB ts = true := by
 rw [objsB_all]; exact List.all_eq_true.2 h
theorem mt_obj {d v m : Int} {t : Tm} (h : MT d v m t) (hd : v + d ≤ 1000) (hd0 : v ≤ 1000) (hm : m ≤ 1000) : objB t = true := by
 induction h with
 | @lam d v m n a hd1 hn ha ih =>
  simp only [objB, if_true, objsB, Bool.and_true, Bool.and_eq_true]
  exact ⟨by simp [boundB, binder_ok hn], ih (by omega) (by omega) hm⟩
 | @app d v m k n i ts hk hl h0 ht ih =>
  have hobs : objsB ts = true := objsB_of (fun a ha => by
   have hd1 := h0 (fun e => by rw [e] at ha; cases ha)
   exact ih a ha (by omega) (by omega) hm)
  rcases hk with ⟨rfl, hn, rfl⟩ | ⟨rfl, rfl, hi0, hi1⟩ | ⟨rfl, rfl, hi0, hi1⟩
  ·simp [objB, cname_ok hn, hobs]
  ·simp only [objB, Int.reduceEq, ↓reduceIte, hobs, Bool.and_true, Bool.and_eq_true, decide_eq_true_eq]
   exact ⟨by kernel_rfl, hi0, by omega⟩
  ·simp only [objB, Int.reduceEq, ↓reduceIte, hobs, Bool.and_true, Bool.and_eq_true, decide_eq_true_eq]
   exact ⟨by kernel_rfl, hi0, by omega⟩
end Go.Proofs.YtpkkoiljombooaaDoor.G
set_option linter.unusedVariables false
namespace Go.Proofs.YtpkkoiljombooaaDoor.G
open Go.RowKit Go.Proofs.YtpkkoiljombooaaDoorW.PrintWords Go.Proofs.YtpkkoiljombooaaDoorW.PrintLast
mutual
def sameT : Tm → Tm → Bool
 | ⟨k, n, i, ts⟩, ⟨k', n', i', ts'⟩ => decide (k = k') && (decide (i = i') && ((decide (n.toList = n'.toList) || (decide (k = 2) || decide (k = 3))) && sameL ts ts'))
def sameL : List Tm → List Tm → Bool
 | [], [] => true
 | t :: ts, t' :: ts' => sameT t t' && sameL ts ts'
 | _, _ => false
end
theorem sameT_eq (x y : Tm) : sameT x y = (decide (x.f0 = y.f0) && (decide (x.f2 = y.f2) && ((decide (x.f1.toList = y.f1.toList) || (decide (x.f0 = 2) || decide (x.f0 = 3))) && sameL x.f3 y.f3))) := by
 cases x; cases y; simp only [sameT]
theorem sameL_len {a b : List Tm} (h : a.length ≠ b.length) : sameL a b = false := by
 induction a generalizing b with
 | nil => cases b with
  | nil => simp at h
  | cons y b => rfl
 | cons x a ih => cases b with
  | nil => rfl
  | cons y b =>
   have := ih (b := b) (by simpa using h)
   simp [sameL, this]
def term_Same.f (a0_0 : Int) (a0_1 : ByteArray) (a0_2 : Int) (l0_3 : List Tm) (a1_0 : Int) (a1_1 : ByteArray) (a1_2 : Int) (l1_3 : List Tm) : Option Bool := if fitT ⟨a0_0, a0_1, a0_2, l0_3⟩ then some (sameT ⟨a0_0, a0_1, a0_2, l0_3⟩ ⟨a1_0, a1_1, a1_2, l1_3⟩) else none
end Go.Proofs.YtpkkoiljombooaaDoor.G
