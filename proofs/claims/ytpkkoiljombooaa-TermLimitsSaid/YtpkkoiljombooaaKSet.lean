import Derived.Maps.OwnIn
import Derived.Maps.OwnSet
import Derived.WalkKit
import Derived.Test.YtpkkoiljombooaaProg
set_option linter.unusedVariables false
namespace Go.Proofs.Ytpkkoiljombooaa.G
open Go.RowKit Go.Maps
def SetIs (W : World) (P : Program) (k e : TypeId) (b n : Nat) (S : List Lit) : Prop :=
 ∃ D : DataW Unit, W.ownsMap P k (plainElem P e) b n D ∧ IsMap D ∧ ∀ l, WideAt.IsKeyLit l → ∃ x : Bool, D.atKey l (.lit (.bool false)) = .lit (.bool x) ∧ (x = true ↔ l ∈ S)
theorem SetIs.made (W : World) (P : Program) (k e : TypeId) : SetIs (W.alloc (.map #[] 0)) P k e W.heap.size 0 [] :=
 ⟨.map [], World.ownsMap_made _ _ _ _, isMap_empty, fun l _ => ⟨false, rfl, by simp⟩⟩
theorem plainElem_bool_inv {P : Program} {e : TypeId} (he : P.underlying e = some .bool) {v : Value} {z : DataW Unit × List MemPlace} (h : plainElem P e v = some z) : ∃ x, v = .bool x ∧ z = (.lit (.bool x), []) := by
 unfold plainElem at h
 rw [he] at h
 cases v <;> simp at h
 exact ⟨_, rfl, h.symm⟩
theorem SetIs.kept {W W' : World} {P : Program} {k e : TypeId} {b n : Nat} {S : List Lit} {row : Option Nat} (h : SetIs W P k e b n S) (hg : W.grownBy W' row) (hne : some b ≠ row) : SetIs W' P k e b n S := by
 obtain ⟨D, h1, h2, h3⟩ := h
 exact ⟨D, h1.kept hg hne, h2, h3⟩
theorem SetIs.alloc {W : World} {P : Program} {k e : TypeId} {b n : Nat} {S : List Lit} (h : SetIs W P k e b n S) (o : Obj) : SetIs (W.alloc o) P k e b n S := h.kept (World.grownBy_alloc W o none) (by simp)
theorem SetIs.lt {W : World} {P : Program} {k e : TypeId} {b n : Nat} {S : List Lit} (h : SetIs W P k e b n S) : b < W.heap.size := by
 obtain ⟨D, h1, _⟩ := h
 exact h1.lt
theorem SetIs.below {W W' : World} {P : Program} {k e : TypeId} {b n : Nat} {S : List Lit} (h : SetIs W P k e b n S) (hb : Below W.heap.size W W') : SetIs W' P k e b n S :=
 h.kept (row := none) ⟨hb.os, hb.tape, hb.output, hb.size, fun i hi _ => hb.block i hi⟩ (by simp)
theorem SetIs.look {W : World} {P : Program} {k e t : TypeId} {b n : Nat} {S : List Lit} (h : SetIs W P k e b n S) (K : Keyed P k) (ht : P.underlying t = some (.map k e)) (he : P.underlying e = some .bool) (hz : (zeroValue e).run P W = .ok (.bool false) W)
  {key : Value} {kl : Lit} (hkey : keyOf P k key = some kl) (hl : WideAt.IsKeyLit kl) (y : Bool) (hy : y = true ↔ kl ∈ S) : (Instr.lookup t (.map (some b)) key false).run P W = .ok (.bool y) W := by
 obtain ⟨D, h1, h2, h3⟩ := h
 obtain ⟨v, ps, hrun, hv⟩ := h1.lookup K ht hz (plainElem_bool he false) hkey
 obtain ⟨x, rfl, hx⟩ := plainElem_bool_inv he hv
 obtain ⟨x', hx', hi⟩ := h3 kl hl
 rw [hx'] at hx
 simp only [Prod.mk.injEq, DataW.lit.injEq, Lit.bool.injEq] at hx
 have : x = y := by rw [← hx.1]; exact Bool.eq_iff_iff.mpr (hi.trans hy.symm)
 rw [hrun, this]
theorem SetIs.put {W : World} {P : Program} {k e t : TypeId} {b n : Nat} {S : List Lit} (h : SetIs W P k e b n S) (K : Keyed P k) (ht : P.underlying t = some (.map k e)) (he : P.underlying e = some .bool) (hn : n < maxLen)
  {key : Value} {kl : Lit} (hkey : keyOf P k key = some kl) (hl : WideAt.IsKeyLit kl) : ∃ W', (Instr.mapUpdate t (.map (some b)) key (.bool true)).run P W = .ok () W' ∧ SetIs W' P k e b (n + 1) (S ++ [kl]) ∧ W.grownBy W' (some b) := by
 obtain ⟨D, h1, h2, h3⟩ := h
 obtain ⟨W', hrun, h4, h5⟩ := h1.update K ht hn hkey (plainElem_bool he true)
 refine ⟨W', hrun, ⟨_, h4, h2.put _ _, fun l hlk => ?_⟩, h5⟩
 by_cases e1 : l = kl
 ·subst e1
  rw [atKey_put_same h2 hl]
  exact ⟨true, rfl, by simp⟩
 ·rw [atKey_put_other e1]
  obtain ⟨x, hx, hi⟩ := h3 l hlk
  exact ⟨x, hx, by rw [hi]; simp [e1]⟩
end Go.Proofs.Ytpkkoiljombooaa.G
