import Derived.Test.YtpkkoiljombooaaKG0
import Derived.WalkKit
set_option linter.unusedVariables false
namespace Go.Proofs.Ytpkkoiljombooaa.G
open Go.RowKit Go.Proofs.YtpkkoiljombooaaW.PrintWords Go.Proofs.YtpkkoiljombooaaW.PrintLast
abbrev Tm := S25
abbrev tv (x : Tm) (A : Option Addr) (c : Nat) : Value := .agg #[.int .i64 x.f0, .string x.f1, .int .i64 x.f2, .slice A x.f3.length c]
abbrev lies (w : World) (A : Option Addr) (l : List Tm) : Prop := Kd.C k25 w A l.length l
theorem below_trans {a b c : World} (h : Below a.heap.size a b) (k : Below b.heap.size b c) : Below a.heap.size a c := h.trans (k.mono h.size)
theorem drawn_trans {a b c : World} (h : Drawn0 a b) (k : Drawn0 b c) : Drawn0 a c := by
 obtain ⟨n, rfl⟩ := k.out
 exact h.step n
theorem bcell {W w1 : World} (hb : Below W.heap.size W w1) : (∀ b o, b < W.heap.size → w1.cell? ⟨b, o, none⟩ = W.cell? ⟨b, o, none⟩) ∧ (∀ b o, b < W.heap.size → w1.frozen? ⟨b, o, none⟩ = W.frozen? ⟨b, o, none⟩) :=
 ⟨fun b o h => hb.cell (p := ⟨b, o, none⟩) h, fun b o h => hb.frozen (p := ⟨b, o, none⟩) h⟩
theorem tm_eta (x : Tm) : (⟨x.f0, x.f1, x.f2, x.f3⟩ : Tm) = x := by cases x; rfl
theorem elem_at {w : World} {A : Option Addr} {l : List Tm} (h : lies w A l) (k : Nat) (hk : k < l.length) :
  ∃ (x : Tm) (ad : Addr) (A3 : Option Addr) (c3 : Nat), l[k]? = some x ∧ A = some ad ∧ w.cell? (ad.add (k * 4)) = some (.int .i64 x.f0) ∧ w.cell? ⟨(ad.add (k * 4)).block, (ad.add (k * 4)).off + 1, none⟩ = some (.string x.f1) ∧
   w.cell? ⟨(ad.add (k * 4)).block, (ad.add (k * 4)).off + 2, none⟩ = some (.int .i64 x.f2) ∧ w.cell? ⟨(ad.add (k * 4)).block, (ad.add (k * 4)).off + 3, none⟩ = some (.slice A3 x.f3.length c3) ∧ x.f3.length ≤ c3 ∧ lies w A3 x.f3 := by
 obtain ⟨ad, A3, c3, ea, h0, h1, h2, h3, hl, hg⟩ := at_T25 h (k : Int) (by omega) (by omega)
 rw [Int.toNat_natCast] at h0 h1 h2 h3
 refine ⟨rd_T25 l k, ad, A3, c3, ?_, ea, h0, h1, h2, h3, hl, hg⟩
 simp [rd_T25, hk]
theorem mem_rd {xs : List Tm} {k : Nat} (h : k < xs.length) : rd_T25 xs (k : Int) = xs[k] := by
 simp [rd_T25, h]
end Go.Proofs.Ytpkkoiljombooaa.G
