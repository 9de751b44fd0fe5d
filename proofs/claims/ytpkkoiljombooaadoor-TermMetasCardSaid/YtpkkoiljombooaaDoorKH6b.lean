import Derived.Test.YtpkkoiljombooaaDoorKG0
import Derived.Test.YtpkkoiljombooaaDoorKG1
import Derived.Test.YtpkkoiljombooaaDoorKH6
import Derived.Test.YtpkkoiljombooaaDoorKNm
set_option linter.unusedVariables false
set_option linter.unusedSimpArgs false
namespace Go.Proofs.YtpkkoiljombooaaDoor.G
open Go.RowKit Go.Proofs.YtpkkoiljombooaaDoorW.PrintWords Go.Proofs.YtpkkoiljombooaaDoorW.PrintLast Go.Proofs.YtpkkoiljombooaaDoorW.PrintMore
attribute [local go_sem] max2_int min2_int max_two min_two max_three min_three max_four min_four
mutual
def fm_Type.j0 : Nat → Int → Int → Int → Bool → List Int → Int → Option (Int × ByteArray × Int × (List (S25)) × Int)
 | 0, _, _, _, _, _, _ => none
 | k + 1, x1, x2, x3, x18, x1000, x1001 => if x18 = true then ((fm_Type.f k x1000 x1001 (wrap64 (x1 - 1)) x2 x3).bind fun bt155 => ((some (([(⟨#[120]⟩ : ByteArray), (⟨#[121]⟩ : ByteArray), (⟨#[78]⟩ : ByteArray), (⟨#[102]⟩ : ByteArray), (⟨#[95]⟩ : ByteArray), (⟨#[]⟩ : ByteArray)] : List ByteArray) : List ByteArray)).bind fun y163 => ((fm_Tape_Next.f x1000 bt155.2.2.2.2 ((([(⟨#[120]⟩ : ByteArray), (⟨#[121]⟩ : ByteArray), (⟨#[78]⟩ : ByteArray), (⟨#[102]⟩ : ByteArray), (⟨#[95]⟩ : ByteArray), (⟨#[]⟩ : ByteArray)] : List ByteArray)).length : Int)).bind fun bt169 => (if 0 ≤ bt169.1 then (if bt169.1 < (y163.length : Int) then ((fm_Type.f k x1000 bt169.2 (wrap64 (x1 - 1)) (wrap64 (x2 + 1)) x3).bind fun bt172 => (some (2, rdOf ByteArray.empty y163 bt169.1, 0, (([(⟨bt155.1, bt155.2.1, bt155.2.2.1, bt155.2.2.2.1⟩ : S25), (⟨bt172.1, bt172.2.1, bt172.2.2.1, bt172.2.2.2.1⟩ : S25)] : List (S25))), bt172.2.2.2.2))) else (none)) else (none))))) else ((some (([(⟨#[110, 97, 116]⟩ : ByteArray), (⟨#[118, 101, 99]⟩ : ByteArray), (⟨#[116, 109]⟩ : ByteArray)] : List ByteArray) : List ByteArray)).bind fun y182 => ((fm_Tape_Next.f x1000 x1001 3).bind fun bt185 => (if 0 ≤ bt185.1 then (if bt185.1 < (y182.length : Int) then ((fm_Tape_Next.f x1000 bt185.2 3).bind fun bt189 => (fm_Type.l0 k x1 x2 x3 bt189.1 x1000 bt189.2 4 (rdOf ByteArray.empty y182 bt185.1) 0 ([] : List (S25)))) else (none)) else (none))))
def fm_Type.l0 : Nat → Int → Int → Int → Int → List Int → Int → Int → ByteArray → Int → List (S25) → Option (Int × ByteArray × Int × (List (S25)) × Int)
 | 0, _, _, _, _, _, _, _, _, _, _ => none
 | k + 1, x1, x2, x3, x11, x1000, x1001, x189000, x189001, x189002, x189003 => if x11 > 0 then (if x1 > 0 then ((fm_Term.f k x1000 x1001 (wrap64 (x1 - 1)) x2 x3).bind fun bt191 => (if x189003.length < 2513169434916 then (fm_Type.l0 k x1 x2 x3 (wrap64 (x11 - 1)) x1000 bt191.2.2.2.2 x189000 x189001 x189002 (x189003 ++ [(⟨bt191.1, bt191.2.1, bt191.2.2.1, bt191.2.2.2.1⟩ : S25)])) else (none))) else (some (x189000, x189001, x189002, x189003, x1001))) else (some (x189000, x189001, x189002, x189003, x1001))
def fm_Type.f : Nat → List Int → Int → Int → Int → Int → Option (Int × ByteArray × Int × (List (S25)) × Int)
 | 0, _, _, _, _, _ => none
 | k + 1, s0_0, s0_1, a1, a2, a3 => if a1 > 0 then ((fm_Tape_Next.f s0_0 s0_1 2).bind fun bt153 => (fm_Type.j0 k a1 a2 a3 (bt153.1 == 0) s0_0 bt153.2)) else (fm_Type.j0 k a1 a2 a3 false s0_0 s0_1)
end
end Go.Proofs.YtpkkoiljombooaaDoor.G
