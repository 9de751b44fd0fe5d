import Derived.Test.YtpkkoiljombooaaDoorKG0
import Derived.Test.YtpkkoiljombooaaDoorKG6
namespace Go.Proofs.YtpkkoiljombooaaDoor.G
open Go.RowKit Go.Proofs.YtpkkoiljombooaaDoorW.PrintWords Go.Proofs.YtpkkoiljombooaaDoorW.PrintLast Go.Proofs.YtpkkoiljombooaaDoorW.PrintMore
attribute [local go_sem] max2_int min2_int max_two min_two max_three min_three max_four min_four
set_option linter.unusedVariables false
set_option linter.unusedSimpArgs false
def r5_Under.f (a0_0 : Int) (a0_1 : ByteArray) (a0_2 : Int) (l0_3 : List (S25)) (a1 : Int) : Option (Int) := if a0_0 = 3 then (some 1) else (if a0_0 = 2 then (if a1 = 1 then (some 1) else (some 0)) else (some 0))
mutual
def r5_scope.j0 : Nat → Int → Int → ByteArray → Int → List (S25) → Option (Int)
 | 0, _, _, _, _, _ => none
 | k + 1, x3, x236000, x236001, x236002, x236003 => r5_scope.l0 k x3 0 x236000 x236001 x236002 x236003
def r5_scope.l0 : Nat → Int → Int → Int → ByteArray → Int → List (S25) → Option (Int)
 | 0, _, _, _, _, _, _ => none
 | k + 1, x3, x4, x236000, x236001, x236002, x236003 => if x4 < (x236003.length : Int) then (if 0 ≤ x4 then ((r5_scope.f k ((rd_T25 x236003 x4).f0) ((rd_T25 x236003 x4).f1) ((rd_T25 x236003 x4).f2) ((rd_T25 x236003 x4).f3)).bind fun t237 => ((r5_Under.f x236000 x236001 x236002 x236003 x4).bind fun t238 => (r5_scope.l0 k (mx x3 (wrap64 (t237 - t238))) (wrap64 (x4 + 1)) x236000 x236001 x236002 x236003))) else (none)) else (some x3)
def r5_scope.f : Nat → Int → ByteArray → Int → List (S25) → Option (Int)
 | 0, _, _, _, _ => none
 | k + 1, a0_0, a0_1, a0_2, l0_3 => if a0_0 = 5 then (r5_scope.j0 k (wrap64 (a0_2 + 1)) a0_0 a0_1 a0_2 l0_3) else (r5_scope.j0 k 0 a0_0 a0_1 a0_2 l0_3)
end
def r5_Scope.f (k : Nat) (a0_0 : Int) (a0_1 : ByteArray) (a0_2 : Int) (l0_3 : List (S25)) : Option (Int) := (r5_WellFormed.f k a0_0 a0_1 a0_2 l0_3).bind fun t240 => (if t240 = 0 then ((r5_scope.f k a0_0 a0_1 a0_2 l0_3).bind fun t241 => (some t241)) else (some 0))
end Go.Proofs.YtpkkoiljombooaaDoor.G
