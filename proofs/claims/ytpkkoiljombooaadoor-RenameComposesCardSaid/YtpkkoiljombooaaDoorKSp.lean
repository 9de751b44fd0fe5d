import Derived.Test.YtpkkoiljombooaaDoorKG0
import Derived.Test.YtpkkoiljombooaaDoorKH1a
import Derived.Test.YtpkkoiljombooaaDoorKH1
set_option linter.unusedVariables false
namespace Go.Proofs.YtpkkoiljombooaaDoor.G
open Go.RowKit Go.Proofs.YtpkkoiljombooaaDoorW.PrintWords Go.Proofs.YtpkkoiljombooaaDoorW.PrintLast
mutual
def fitT : Tm → Bool
 | ⟨_, _, _, ts⟩ => decide (ts.length ≤ 4611686018427387904) && fitL ts
def fitL : List Tm → Bool
 | [] => true
 | a :: ts => fitT a && fitL ts
end
theorem fitL_mem {ts : List Tm} (h : fitL ts = true) : ∀ a ∈ ts, fitT a = true := by
 induction ts with
 | nil => intro a ha; cases ha
 | cons b bs ih =>
  simp only [fitL, Bool.and_eq_true] at h
  intro a ha
  cases ha with
  | head => exact h.1
  | tail _ ha => exact ih h.2 a ha
theorem fitT_len {x : Tm} (h : fitT x = true) : x.f3.length ≤ 4611686018427387904 ∧ fitL x.f3 = true := by
 cases x; simpa [fitT] using h
theorem sizeOf_arg {x y : Tm} (h : y ∈ x.f3) : SizeOf.sizeOf y < SizeOf.sizeOf x := by
 cases x with
 | mk k n i ts =>
  have := List.sizeOf_lt_of_mem h
  simp only [S25.mk.sizeOf_spec] at *
  omega
def binderName (n : ByteArray) : Bool := decide (n.toList = []) || (decide (n.toList = [95]) || isNameB n)
def boundB (x : Tm) (args : Int) : Bool := decide (x.f2 = 0) && (decide ((x.f3.length : Int) = args) && binderName x.f1)
mutual
def objB : Tm → Bool
 | ⟨k, n, i, ts⟩ =>
  if k = 3 then boundB ⟨k, n, i, ts⟩ 1 && objsB ts
  else if k = 4 then isNameB n && (decide (i = 0) && objsB ts)
  else if k = 5 then decide (n.toList = []) && (decide (0 ≤ i) && (decide (i ≤ 1048576) && objsB ts))
  else if k = 6 then decide (n.toList = []) && (decide (0 ≤ i) && (decide (i < 2048) && objsB ts))
  else false
def objsB : List Tm → Bool
 | [] => true
 | a :: ts => objB a && objsB ts
end
def atomB (x : Tm) : Bool := decide (x.f0 = 4) && (isNameB x.f1 && (decide (x.f2 = 0) && objsB x.f3))
theorem objsB_all (ts : List Tm) : objsB ts = ts.all objB := by
 induction ts with
 | nil => rfl
 | cons a ts ih => simp [objsB, ih]
def idxB (p : Tm → Bool) : List Tm → Int → Int
 | [], _ => -1
 | x :: r, i => if p x then i else idxB p r (i + 1)
theorem idxB_any (p : Tm → Bool) (l : List Tm) : ∀ i : Int, 0 ≤ i → (decide (0 ≤ idxB p l i) = l.any p) := by
 induction l with
 | nil => intro i hi; simp [idxB]
 | cons x r ih =>
  intro i hi
  simp only [idxB, List.any_cons]
  split
  ·next h => simp [h, hi]
  ·next h => simp [h, ih (i + 1) (by omega)]
def innerB (k b : Int) (j : Nat) : Int := if k = 3 ∨ (k = 2 ∧ j = 1) then wrap64 (b + 1) else b
abbrev Nd := Int × Int × ByteArray × Int
mutual
def nodesT (b : Int) : Tm → List Nd
 | ⟨k, n, i, ts⟩ => (b, k, n, i) :: nodesL k b 0 ts
def nodesL (k b : Int) (j : Nat) : List Tm → List Nd
 | [] => []
 | t :: ts => nodesT (innerB k b j) t ++ nodesL k b (j + 1) ts
end
theorem nodesT_eq (b : Int) (x : Tm) : nodesT b x = (b, x.f0, x.f1, x.f2) :: nodesL x.f0 b 0 x.f3 := by cases x; simp [nodesT]
end Go.Proofs.YtpkkoiljombooaaDoor.G
