import Derived.Test.YtpkkoiljombooaaDoorKG0
import Derived.Test.YtpkkoiljombooaaDoorKG1
import Derived.Test.YtpkkoiljombooaaDoorKH6
import Derived.Test.YtpkkoiljombooaaDoorKH6b
import Derived.Test.YtpkkoiljombooaaDoorKNm
set_option linter.unusedVariables false
set_option linter.unusedSimpArgs false
namespace Go.Proofs.YtpkkoiljombooaaDoor.G
open Go.RowKit Go.Proofs.YtpkkoiljombooaaDoorW.PrintWords Go.Proofs.YtpkkoiljombooaaDoorW.PrintLast Go.Proofs.YtpkkoiljombooaaDoorW.PrintMore
attribute [local go_sem] max2_int min2_int max_two min_two max_three min_three max_four min_four
def fm_Any.l0 : Nat → Int → Int → List Int → Int → Int → ByteArray → Int → List (S25) → Option (Int × ByteArray × Int × (List (S25)) × Int)
 | 0, _, _, _, _, _, _, _, _ => none
 | k + 1, x1, x10, x1000, x1001, x212000, x212001, x212002, x212003 => if x10 > 0 then ((fm_Type.f k x1000 x1001 (wrap64 (x1 - 1)) 0 0).bind fun bt214 => (fm_Any.l0 k x1 (wrap64 (x10 - 1)) x1000 bt214.2.2.2.2 2 (⟨#[]⟩ : ByteArray) 0 (([(⟨bt214.1, bt214.2.1, bt214.2.2.1, bt214.2.2.2.1⟩ : S25), (⟨x212000, x212001, x212002, x212003⟩ : S25)] : List (S25))))) else (some (x212000, x212001, x212002, x212003, x1001))
def fm_Any.f (k : Nat) (s0_0 : List Int) (s0_1 : Int) (a1 : Int) (a2 : Int) (a3 : Int) : Option (Int × ByteArray × Int × (List (S25)) × Int) := (fm_Tape_Next.f s0_0 s0_1 4).bind fun bt202 => (if bt202.1 = 0 then ((fm_Type.f k s0_0 bt202.2 a1 a2 a3).bind fun bt204 => (some (bt204.1, bt204.2.1, bt204.2.2.1, bt204.2.2.2.1, bt204.2.2.2.2))) else (if bt202.1 = 1 then ((fm_Tape_Next.f s0_0 bt202.2 3).bind fun bt212 => (fm_Any.l0 k a1 bt212.1 s0_0 bt212.2 1 (⟨#[]⟩ : ByteArray) 0 ([] : List (S25)))) else ((fm_Term.f k s0_0 bt202.2 a1 a2 a3).bind fun bt224 => (some (bt224.1, bt224.2.1, bt224.2.2.1, bt224.2.2.2.1, bt224.2.2.2.2)))))
end Go.Proofs.YtpkkoiljombooaaDoor.G
