import Derived.Test.YtpkkoiljombooaaDoorKG0
import Derived.Test.YtpkkoiljombooaaDoorKH6
import Derived.Test.YtpkkoiljombooaaDoorKH6b
import Derived.Test.YtpkkoiljombooaaDoorKH6c
import Derived.Test.YtpkkoiljombooaaDoorKNm
set_option linter.unusedVariables false
namespace Go.Proofs.YtpkkoiljombooaaDoor.G
open Go.RowKit Go.Proofs.YtpkkoiljombooaaDoorW.PrintWords Go.Proofs.YtpkkoiljombooaaDoorW.PrintLast
def fm_TermL.f (k : Nat) (l : List Int) (a1 a2 a3 : Int) : Option (Int × ByteArray × Int × List S25) := (fm_Term.f k l 0 a1 a2 a3).bind fun r => some (r.1, r.2.1, r.2.2.1, r.2.2.2.1)
def fm_AnyL.f (k : Nat) (l : List Int) (a1 a2 a3 : Int) : Option (Int × ByteArray × Int × List S25) := (fm_Any.f k l 0 a1 a2 a3).bind fun r => some (r.1, r.2.1, r.2.2.1, r.2.2.2.1)
theorem fm_AnyL.calls (k : Nat) (A0 : Option Addr) (c0 : Nat) (l0 : List Int) (a1 a2 a3 : Int) (r1 : Int) (r2 : ByteArray) (r3 : Int) (r4 : List S25) (w : World) (hr0 : Kd.C (Kd.int .i64) w A0 l0.length l0) (hc0 : l0.length ≤ c0)
  (h : fm_AnyL.f k l0 a1 a2 a3 = some (r1, r2, r3, r4)) (hN : NamesLaid w) :
  Calls Tryd.prog 72 #[.pointer (some ⟨w.heap.size, 0, none⟩), .int .i64 a1, .int .i64 a2, .int .i64 a3] (w.alloc (.cells #[.slice A0 l0.length c0, .int .i64 0] 46)) fun e w' => ∃ v3_ : Value, e = .returned (.agg #[.int .i64 r1, .string r2, .int .i64 r3, v3_]) ∧ Kd.N k25 25 w' w.heap.size (fun k_ => (w.heap.size ≤ k_)) v3_ r4 ∧ Below w.heap.size w w' := by
 unfold fm_AnyL.f at h
 obtain ⟨⟨q1, q2, q3, q4, q5⟩, hq, h⟩ := yK h
 cases h
 refine (fm_Any.calls k w.heap.size l0 0 a1 a2 a3 q1 q2 q3 q4 q5 w _ (IsS46.new w w A0 c0 l0 0 (Below.refl _ _) hr0) (yF (Below.refl _ _) _) hq hN).mono ?_
 rintro e w' ⟨v3, rfl, ho, _, hb, _⟩
 exact ⟨v3, rfl, Kd.N_mono (Kd.N_lower ho (by simp)) (fun k_ hk => by have := hk; simp at this; omega), hb⟩
def fm_TypeL.f (k : Nat) (l : List Int) (a1 a2 a3 : Int) : Option (Int × ByteArray × Int × List S25) := (fm_Type.f k l 0 a1 a2 a3).bind fun r => some (r.1, r.2.1, r.2.2.1, r.2.2.2.1)
end Go.Proofs.YtpkkoiljombooaaDoor.G
