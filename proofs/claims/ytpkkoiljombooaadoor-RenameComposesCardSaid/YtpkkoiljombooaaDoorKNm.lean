import Derived.Test.YtpkkoiljombooaaDoorKG0
set_option linter.unusedVariables false
namespace Go.Proofs.YtpkkoiljombooaaDoor.G
open Go.RowKit Go.Proofs.YtpkkoiljombooaaDoorW.PrintWords Go.Proofs.YtpkkoiljombooaaDoorW.PrintLast
def namesL : List ByteArray := [⟨#[120]⟩, ⟨#[121]⟩, ⟨#[78]⟩, ⟨#[102]⟩, ⟨#[95]⟩, ⟨#[]⟩]
structure NamesAt (w : World) (A : Addr) (c : Nat) : Prop where
 cell : w.cell? ⟨0, 0, none⟩ = some (.slice (some A) 6 c)
 row : Kd.C Kd.string w (some A) 6 namesL
theorem NamesAt.lt {w : World} {A : Addr} {c : Nat} (h : NamesAt w A c) : 0 < w.heap.size := by
 have := h.cell
 rcases Nat.eq_zero_or_pos w.heap.size with h0 | h0
 ·simp [World.cell?, h0] at this
 ·exact h0
theorem NamesAt.below {w0 w : World} {A : Addr} {c : Nat} (h : NamesAt w0 A c) (hb : Below w0.heap.size w0 w) : NamesAt w A c :=
 ⟨by have := hb.block 0 h.lt; have h1 := h.cell; unfold World.cell? at h1 ⊢; simp only [this]; exact h1, Kd.C_below h.row hb⟩
def NamesLaid (w : World) : Prop := ∃ A c, NamesAt w A c
theorem NamesLaid.below {w0 w : World} (h : NamesLaid w0) (hb : Below w0.heap.size w0 w) : NamesLaid w := by
 obtain ⟨A, c, h⟩ := h
 exact ⟨A, c, h.below hb⟩
theorem RN_slice {v : Value} {A : Option Addr} {n c : Nat} (h : v = .slice A n c) : ∃ A' c', v = .slice A' n c' := ⟨A, c, h⟩
theorem names_reads {w : World} {NA A : Addr} {Nc c : Nat} {y : List ByteArray} (h : NamesAt w NA Nc) (hy : y = namesL) (he : Value.slice (some A) y.length c = .slice (some NA) y.length Nc) : Kd.C Kd.string w (some A) y.length y := by
 injection he with h1 _ _
 injection h1 with h1
 subst h1 hy
 exact h.row
end Go.Proofs.YtpkkoiljombooaaDoor.G
