import Derived.Test.YtpkkoiljombooaaDoorKG0
import Derived.Test.YtpkkoiljombooaaDoorKG5
import Derived.Test.YtpkkoiljombooaaDoorKG6
import Derived.Test.YtpkkoiljombooaaDoorKH2
namespace Go.Proofs.YtpkkoiljombooaaDoor.G
open Go.RowKit Go.Proofs.YtpkkoiljombooaaDoorW.PrintWords Go.Proofs.YtpkkoiljombooaaDoorW.PrintLast Go.Proofs.YtpkkoiljombooaaDoorW.PrintMore
attribute [local go_sem] max2_int min2_int max_two min_two max_three min_three max_four min_four
set_option linter.unusedVariables false
set_option linter.unusedSimpArgs false
def term_IsKind.f (k : Nat) (a0_0 : Int) (a0_1 : ByteArray) (a0_2 : Int) (l0_3 : List (S25)) : Option (Bool) := (term_kind.f k a0_0 a0_1 a0_2 l0_3).bind fun t217 => (if t217 = true then ((term_small.f k a0_0 a0_1 a0_2 l0_3).bind fun t218 => (some t218)) else (some false))
def r5_IsKind.f (k : Nat) (a0_0 : Int) (a0_1 : ByteArray) (a0_2 : Int) (l0_3 : List (S25)) : Option (Bool) := (r5_sorts.f k a0_0 a0_1 a0_2 l0_3).bind fun t220 => (if (Go.bits .and .i64 t220 4) = 0 then (some false) else ((r5_Small.f k a0_0 a0_1 a0_2 l0_3).bind fun t221 => (some t221)))
def term_IsType.f (k : Nat) (a0_0 : Int) (a0_1 : ByteArray) (a0_2 : Int) (l0_3 : List (S25)) : Option (Bool) := (term_typed.f k a0_0 a0_1 a0_2 l0_3).bind fun t223 => (if t223 = true then ((term_small.f k a0_0 a0_1 a0_2 l0_3).bind fun t224 => (some t224)) else (some false))
def r5_IsType.f (k : Nat) (a0_0 : Int) (a0_1 : ByteArray) (a0_2 : Int) (l0_3 : List (S25)) : Option (Bool) := (r5_sorts.f k a0_0 a0_1 a0_2 l0_3).bind fun t226 => (if (Go.bits .and .i64 t226 2) = 0 then (some false) else ((r5_Small.f k a0_0 a0_1 a0_2 l0_3).bind fun t227 => (some t227)))
def term_IsObject.f (k : Nat) (a0_0 : Int) (a0_1 : ByteArray) (a0_2 : Int) (l0_3 : List (S25)) : Option (Bool) := (term_object.f a0_0 a0_1 a0_2 l0_3).bind fun t229 => (if t229 = true then ((term_small.f k a0_0 a0_1 a0_2 l0_3).bind fun t230 => (some t230)) else (some false))
def r5_IsObject.f (k : Nat) (a0_0 : Int) (a0_1 : ByteArray) (a0_2 : Int) (l0_3 : List (S25)) : Option (Bool) := (r5_sorts.f k a0_0 a0_1 a0_2 l0_3).bind fun t232 => (if (Go.bits .and .i64 t232 1) = 0 then (some false) else ((r5_Small.f k a0_0 a0_1 a0_2 l0_3).bind fun t233 => (some t233)))
end Go.Proofs.YtpkkoiljombooaaDoor.G
