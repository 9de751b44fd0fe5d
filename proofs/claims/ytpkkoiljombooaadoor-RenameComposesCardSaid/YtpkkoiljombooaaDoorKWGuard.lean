import Derived.Test.YtpkkoiljombooaaDoorKWInv
import Derived.Test.YtpkkoiljombooaaDoorKWN
import Derived.Test.YtpkkoiljombooaaDoorKWWords
namespace Go.Proofs.YtpkkoiljombooaaDoorW.PrintWords
open Go.RowKit
theorem Kd.R_slice1 {α : Type} {d : Kd α} {e base : Nat} {ok : Nat → Prop} {w : World} {v : Value} {xs : List α} (h : d.R e w base ok v xs) (hn : 0 < xs.length) : ∃ (ad : Addr) (c : Nat), v = .slice (some ad) xs.length c := by
 obtain ⟨A, c, rfl⟩ := Kd.R_slice h
 have h2 := (Kd.R_reads' h).2.2
 obtain ⟨ad, he, _⟩ := h2.2.2 hn
 subst he
 exact ⟨ad, c, rfl⟩
end Go.Proofs.YtpkkoiljombooaaDoorW.PrintWords
namespace Go.Proofs.YtpkkoiljombooaaDoorW.PrintWords
open Go.RowKit
section
variable {P : Program} {ops : Array Oper} {rest : List Oper} {o : Oper} {a : Act} {Q : Exit → Act → World → Prop} {W : World}
theorem gate_guard (hw : Region.wanted o (yielded ops a.tmps) = true) (h : wpList P ops Q ({ o with guard := none } :: rest) a W) : wpList P ops Q (o :: rest) a W := by
 have h1 : Region.wanted { o with guard := none } (yielded ops a.tmps) = true := rfl
 unfold wpList at h ⊢
 rw [if_pos h1] at h
 rw [if_pos hw]
 exact h
end
end Go.Proofs.YtpkkoiljombooaaDoorW.PrintWords
