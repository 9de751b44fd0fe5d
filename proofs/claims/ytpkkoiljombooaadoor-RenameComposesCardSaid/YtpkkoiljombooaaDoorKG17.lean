import Derived.Test.YtpkkoiljombooaaDoorKG0
import Derived.Test.YtpkkoiljombooaaDoorKG6
import Derived.Test.YtpkkoiljombooaaDoorKG1
namespace Go.Proofs.YtpkkoiljombooaaDoor.G
open Go.RowKit Go.Proofs.YtpkkoiljombooaaDoorW.PrintWords Go.Proofs.YtpkkoiljombooaaDoorW.PrintLast Go.Proofs.YtpkkoiljombooaaDoorW.PrintMore
attribute [local go_sem] max2_int min2_int max_two min_two max_three min_three max_four min_four
set_option linter.unusedVariables false
set_option linter.unusedSimpArgs false
def r5_Under.f (a0_0 : Int) (a0_1 : ByteArray) (a0_2 : Int) (l0_3 : List (S25)) (a1 : Int) : Option (Int) := if a0_0 = 3 then (some 1) else (if a0_0 = 2 then (if a1 = 1 then (some 1) else (some 0)) else (some 0))
mutual
def r5_scope.j0 : Nat → Int → Int → ByteArray → Int → List (S25) → Option (Int)
 | 0, _, _, _, _, _ => none
 | k + 1, x3, x236000, x236001, x236002, x236003 => r5_scope.l0 k x3 0 x236000 x236001 x236002 x236003
def r5_scope.l0 : Nat → Int → Int → Int → ByteArray → Int → List (S25) → Option (Int)
 | 0, _, _, _, _, _, _ => none
 | k + 1, x3, x4, x236000, x236001, x236002, x236003 => if x4 < (x236003.length : Int) then (if 0 ≤ x4 then ((r5_scope.f k ((rd_T25 x236003 x4).f0) ((rd_T25 x236003 x4).f1) ((rd_T25 x236003 x4).f2) ((rd_T25 x236003 x4).f3)).bind fun t237 => ((r5_Under.f x236000 x236001 x236002 x236003 x4).bind fun t238 => (r5_scope.l0 k (mx x3 (wrap64 (t237 - t238))) (wrap64 (x4 + 1)) x236000 x236001 x236002 x236003))) else (none)) else (some x3)
def r5_scope.f : Nat → Int → ByteArray → Int → List (S25) → Option (Int)
 | 0, _, _, _, _ => none
 | k + 1, a0_0, a0_1, a0_2, l0_3 => if a0_0 = 5 then (r5_scope.j0 k (wrap64 (a0_2 + 1)) a0_0 a0_1 a0_2 l0_3) else (r5_scope.j0 k 0 a0_0 a0_1 a0_2 l0_3)
end
def r5_Scope.f (k : Nat) (a0_0 : Int) (a0_1 : ByteArray) (a0_2 : Int) (l0_3 : List (S25)) : Option (Int) := (r5_WellFormed.f k a0_0 a0_1 a0_2 l0_3).bind fun t240 => (if t240 = 0 then ((r5_scope.f k a0_0 a0_1 a0_2 l0_3).bind fun t241 => (some t241)) else (some 0))
end Go.Proofs.YtpkkoiljombooaaDoor.G
namespace Go.Proofs.YtpkkoiljombooaaDoor.G
open Go.RowKit Go.Proofs.YtpkkoiljombooaaDoorW.PrintWords Go.Proofs.YtpkkoiljombooaaDoorW.PrintLast Go.Proofs.YtpkkoiljombooaaDoorW.PrintMore
attribute [local go_sem] max2_int min2_int max_two min_two max_three min_three max_four min_four
set_option linter.unusedVariables false
set_option linter.unusedSimpArgs false
def bits_Mul64.f (a0 : Int) (a1 : Int) : Option (Int × Int) := some (IntKind.u64.wrap ((IntKind.u64.wrap ((IntKind.u64.wrap ((a0 / 4294967296) * (a1 / 4294967296))) + ((IntKind.u64.wrap ((IntKind.u64.wrap ((a0 / 4294967296) * (Go.bits .and .u64 a1 4294967295))) + ((IntKind.u64.wrap ((Go.bits .and .u64 a0 4294967295) * (Go.bits .and .u64 a1 4294967295))) / 4294967296))) / 4294967296))) + ((IntKind.u64.wrap ((Go.bits .and .u64 (IntKind.u64.wrap ((IntKind.u64.wrap ((a0 / 4294967296) * (Go.bits .and .u64 a1 4294967295))) + ((IntKind.u64.wrap ((Go.bits .and .u64 a0 4294967295) * (Go.bits .and .u64 a1 4294967295))) / 4294967296))) 4294967295) + (IntKind.u64.wrap ((Go.bits .and .u64 a0 4294967295) * (a1 / 4294967296))))) / 4294967296)), IntKind.u64.wrap (a0 * a1))
set_option maxHeartbeats 8000000 in
set_option maxRecDepth 100000 in
theorem bits_Mul64.calls (a0 : Int) (a1 : Int) (r1 : Int) (r2 : Int) (w : World) (h : bits_Mul64.f a0 a1 = some (r1, r2)) :
  Calls Tryd.prog 144 #[.int .u64 a0, .int .u64 a1] w fun e w' => e = .returned (.tuple #[.int .u64 r1, .int .u64 r2]) ∧ Drawn0 w w' := by
 have H : (some (IntKind.u64.wrap ((IntKind.u64.wrap ((IntKind.u64.wrap ((a0 / 4294967296) * (a1 / 4294967296))) + ((IntKind.u64.wrap ((IntKind.u64.wrap ((a0 / 4294967296) * (Go.bits .and .u64 a1 4294967295))) + ((IntKind.u64.wrap ((Go.bits .and .u64 a0 4294967295) * (Go.bits .and .u64 a1 4294967295))) / 4294967296))) / 4294967296))) + ((IntKind.u64.wrap ((Go.bits .and .u64 (IntKind.u64.wrap ((IntKind.u64.wrap ((a0 / 4294967296) * (Go.bits .and .u64 a1 4294967295))) + ((IntKind.u64.wrap ((Go.bits .and .u64 a0 4294967295) * (Go.bits .and .u64 a1 4294967295))) / 4294967296))) 4294967295) + (IntKind.u64.wrap ((Go.bits .and .u64 a0 4294967295) * (a1 / 4294967296))))) / 4294967296)), IntKind.u64.wrap (a0 * a1))) = some (r1, r2) := h
 clear h
 simp only [Option.some.injEq, Prod.mk.injEq] at H
 obtain ⟨rfl, rfl⟩ := H
 go_enter Tryd.func144, Tryd.ntmps144
 go_wp2
 go_ret2
 exact ⟨by first | rfl | (simp; done) | (simp [*]; done), by repeat (first | exact Drawn0.refl _ | apply Drawn0.step)⟩
def bits_Mul.f (a0 : Int) (a1 : Int) : Option (Int × Int) := (bits_Mul64.f a0 a1).bind fun bt485 => (some (bt485.1, bt485.2))
set_option maxHeartbeats 8000000 in
set_option maxRecDepth 100000 in
theorem bits_Mul.calls (a0 : Int) (a1 : Int) (r1 : Int) (r2 : Int) (w : World) (h : bits_Mul.f a0 a1 = some (r1, r2)) :
  Calls Tryd.prog 130 #[.int .u64 a0, .int .u64 a1] w fun e w' => e = .returned (.tuple #[.int .u64 r1, .int .u64 r2]) ∧ Drawn0 w w' := by
 have H : ((bits_Mul64.f a0 a1).bind fun bt485 => (some (bt485.1, bt485.2))) = some (r1, r2) := h
 clear h;replace H := yK H
 obtain ⟨⟨t485, t486⟩, A30, H⟩ := H
 replace H : (some (t485, t486)) = some (r1, r2) := H
 have A3 := yJ A30;clear A30
 simp only [Option.some.injEq, Prod.mk.injEq] at H
 obtain ⟨rfl, rfl⟩ := H
 go_enter Tryd.func130, Tryd.ntmps130
 go_wp2_with (first | ((with_reducible refine gate_callee (f := 144) rfl ?_); refine goesL_ (some 25) rfl rfl Tryd.func144 (by kernel_rfl) rfl #[.int .u64 a0, .int .u64 a1] rfl (by (try simp only [List.map_toArray, List.map_cons, List.map_nil]); first | done | rfl | (simp only [List.length_drop, List.length_take]; rfl)) ?_; (with_reducible refine (bits_Mul64.calls a0 a1 t485 t486 _ A3.out).mono ?_); rintro e w' ⟨rfl, ⟨nd, rfl⟩⟩; refine ⟨_, rfl, ?_⟩))
 go_ret2
 exact ⟨by first | rfl | (simp; done) | (simp [*]; done), by repeat (first | exact Drawn0.refl _ | apply Drawn0.step)⟩
def f6_targets.l0 : Nat → List Int → List Int → Int → Option (List Int)
 | 0, _, _, _ => none
 | k + 1, x0, x3, x4 => if x4 < (x0.length : Int) then (if x4 < 8 then ((some (([0, 1, 2, 3, 4, 7, (-1), 1048576, 1048575, 4611686018427387904] : List Int) : List Int)).bind fun y491 => (if 0 ≤ x4 then ((fm_Cut.f (rd x0 x4) 10).bind fun t495 => (if 0 ≤ t495 then (if t495 < (y491.length : Int) then (if x3.length < 17592186044416 then (f6_targets.l0 k x0 (x3 ++ [rd y491 t495]) (wrap64 (x4 + 1))) else (none)) else (none)) else (none))) else (none))) else (some x3)) else (some x3)
def f6_targets.f (k : Nat) (l0 : List Int) : Option (List Int) := f6_targets.l0 k l0 ([] : List Int) 0
mutual
def r6_rename.j0 : Nat → List Int → Int → Bool → Int → ByteArray → Int → List (S25) → Int → ByteArray → Int → Option (Int × ByteArray × Int × (List (S25)) × Bool)
 | 0, _, _, _, _, _, _, _, _, _, _ => none
 | k + 1, x1, x2, x28, x501000, x501001, x501002, x501003, x503000, x503001, x503002 => if x28 = true then (if (wrap64 (x501002 - x2)) ≥ (x1.length : Int) then (some (0, (⟨#[]⟩ : ByteArray), 0, ([] : List (S25)), false)) else (if 0 ≤ (wrap64 (x501002 - x2)) then (if (wrap64 (x501002 - x2)) < (x1.length : Int) then (if (rd x1 (wrap64 (x501002 - x2))) < 0 then (some (0, (⟨#[]⟩ : ByteArray), 0, ([] : List (S25)), false)) else (if (rd x1 (wrap64 (x501002 - x2))) > (wrap64 (1048576 - x2)) then (some (0, (⟨#[]⟩ : ByteArray), 0, ([] : List (S25)), false)) else (r6_rename.j1 k x1 x2 x501000 x501001 x501002 x501003 x503000 x503001 (wrap64 ((rd x1 (wrap64 (x501002 - x2))) + x2))))) else (none)) else (none))) else (r6_rename.j1 k x1 x2 x501000 x501001 x501002 x501003 x503000 x503001 x503002)
def r6_rename.j1 : Nat → List Int → Int → Int → ByteArray → Int → List (S25) → Int → ByteArray → Int → Option (Int × ByteArray × Int × (List (S25)) × Bool)
 | 0, _, _, _, _, _, _, _, _, _ => none
 | k + 1, x1, x2, x501000, x501001, x501002, x501003, x503000, x503001, x503002 => r6_rename.l0 k x1 x2 0 x501000 x501001 x501002 x501003 x503000 x503001 x503002 ([] : List (S25))
def r6_rename.l0 : Nat → List Int → Int → Int → Int → ByteArray → Int → List (S25) → Int → ByteArray → Int → List (S25) → Option (Int × ByteArray × Int × (List (S25)) × Bool)
 | 0, _, _, _, _, _, _, _, _, _, _, _ => none
 | k + 1, x1, x2, x10, x501000, x501001, x501002, x501003, x503000, x503001, x503002, x503003 => if x10 < (x501003.length : Int) then (if 0 ≤ x10 then ((r5_Under.f x501000 x501001 x501002 x501003 x10).bind fun t507 => ((r6_rename.f k ((rd_T25 x501003 x10).f0) ((rd_T25 x501003 x10).f1) ((rd_T25 x501003 x10).f2) ((rd_T25 x501003 x10).f3) x1 (wrap64 (x2 + t507))).bind fun bt508 => (if bt508.2.2.2.2 = true then (if x503003.length < 2513169434916 then (r6_rename.l0 k x1 x2 (wrap64 (x10 + 1)) x501000 x501001 x501002 x501003 x503000 x503001 x503002 (x503003 ++ [(⟨bt508.1, bt508.2.1, bt508.2.2.1, bt508.2.2.2.1⟩ : S25)])) else (none)) else (some (0, (⟨#[]⟩ : ByteArray), 0, ([] : List (S25)), false))))) else (none)) else (some (x503000, x503001, x503002, x503003, true))
def r6_rename.f : Nat → Int → ByteArray → Int → List (S25) → List Int → Int → Option (Int × ByteArray × Int × (List (S25)) × Bool)
 | 0, _, _, _, _, _, _ => none
 | k + 1, a0_0, a0_1, a0_2, l0_3, l1, a2 => if a0_0 = 5 then (r6_rename.j0 k l1 a2 (decide (a0_2 ≥ a2)) a0_0 a0_1 a0_2 l0_3 a0_0 a0_1 a0_2) else (r6_rename.j0 k l1 a2 false a0_0 a0_1 a0_2 l0_3 a0_0 a0_1 a0_2)
end
end Go.Proofs.YtpkkoiljombooaaDoor.G
