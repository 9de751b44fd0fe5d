import Derived.Test.YtpkkoiljombooaaDoorKG0
import Derived.Test.YtpkkoiljombooaaDoorKH1a
namespace Go.Proofs.YtpkkoiljombooaaDoor.G
open Go.RowKit Go.Proofs.YtpkkoiljombooaaDoorW.PrintWords Go.Proofs.YtpkkoiljombooaaDoorW.PrintLast Go.Proofs.YtpkkoiljombooaaDoorW.PrintMore
attribute [local go_sem] max2_int min2_int max_two min_two max_three min_three max_four min_four
set_option linter.unusedVariables false
set_option linter.unusedSimpArgs false
def token_nameByte.f (a0 : Int) : Option (Bool) := if a0 > 32 then (if a0 < 127 then ((strings_IndexByte.f (⟨#[40, 41, 91, 93, 123, 125, 58, 46, 37]⟩ : ByteArray) a0).bind fun t162 => (some (decide (t162 < 0)))) else (some false)) else (some false)
set_option maxHeartbeats 8000000 in
set_option maxRecDepth 100000 in
theorem token_nameByte.calls (a0 : Int) (r : Bool) (w : World) (h : token_nameByte.f a0 = some r) :
  Calls Tryd.prog 146 #[.int .u8 a0] w fun e w' => e = .returned (.bool r) ∧ Drawn0 w w' := by
 have H : (if a0 > 32 then (if a0 < 127 then ((strings_IndexByte.f (⟨#[40, 41, 91, 93, 123, 125, 58, 46, 37]⟩ : ByteArray) a0).bind fun t162 => (some (decide (t162 < 0)))) else (some false)) else (some false)) = some r := h
 clear h
 by_cases c2 : a0 > 32
 ·rw [if_pos c2] at H
  have c2b0 : decide (32 < a0) = true := decide_eq_true c2
  clear c2
  by_cases c3 : a0 < 127
  ·rw [if_pos c3] at H
   have c3b0 : decide (a0 < 127) = true := decide_eq_true c3
   clear c3;replace H := yK H;obtain ⟨t162, A40, H⟩ := H
   replace H : (some (decide (t162 < 0))) = some r := H
   have A4 := yJ A40;clear A40
   obtain rfl := Option.some.inj H
   go_enter Tryd.func146, Tryd.ntmps146
   go_wp2_with (first | (go_at_call 152; (with_reducible refine (strings_IndexByte.calls (⟨#[40, 41, 91, 93, 123, 125, 58, 46, 37]⟩ : ByteArray) a0 t162 _ A4.out).mono ?_); rintro e w' ⟨rfl, ⟨nd, rfl⟩⟩))
   go_ret
   exact ⟨by first | rfl | (simp; done) | (simp [*]; done), by repeat (first | exact Drawn0.refl _ | apply Drawn0.step)⟩
  ·rw [if_neg c3] at H
   have c3b0 : decide (a0 < 127) = false := decide_eq_false c3
   clear c3
   obtain rfl := Option.some.inj H
   go_enter Tryd.func146, Tryd.ntmps146
   go_wp2
   go_ret
   exact ⟨by first | rfl | (simp; done) | (simp [*]; done), by repeat (first | exact Drawn0.refl _ | apply Drawn0.step)⟩
 ·rw [if_neg c2] at H
  have c2b0 : decide (32 < a0) = false := decide_eq_false c2
  clear c2
  obtain rfl := Option.some.inj H
  go_enter Tryd.func146, Tryd.ntmps146
  go_wp2
  go_ret
  exact ⟨by first | rfl | (simp; done) | (simp [*]; done), by repeat (first | exact Drawn0.refl _ | apply Drawn0.step)⟩
def token_reserved.f (a0 : ByteArray) : Option (Bool) := if a0.toList = ([45, 62] : List UInt8) then (some true) else (if a0.toList = ([60, 45] : List UInt8) then (some true) else (if a0.toList = ([61] : List UInt8) then (some true) else (if a0.toList = ([95] : List UInt8) then (some true) else (if a0.toList = ([116, 121, 112, 101] : List UInt8) then (some true) else (some false)))))
set_option maxHeartbeats 8000000 in
set_option maxRecDepth 100000 in
theorem token_reserved.calls (a0 : ByteArray) (r : Bool) (w : World) (h : token_reserved.f a0 = some r) :
  Calls Tryd.prog 147 #[.string a0] w fun e w' => e = .returned (.bool r) ∧ Drawn0 w w' := by
 have H : (if a0.toList = ([45, 62] : List UInt8) then (some true) else (if a0.toList = ([60, 45] : List UInt8) then (some true) else (if a0.toList = ([61] : List UInt8) then (some true) else (if a0.toList = ([95] : List UInt8) then (some true) else (if a0.toList = ([116, 121, 112, 101] : List UInt8) then (some true) else (some false)))))) = some r := h
 clear h
 by_cases c2 : a0.toList = ([45, 62] : List UInt8)
 ·rw [if_pos c2] at H
  have c2b0 : (a0.toList == ([45, 62] : List UInt8)) = true := beq_iff_eq.mpr c2
  have c2b1 : (a0.toList != ([45, 62] : List UInt8)) = false := bne_eq_false_iff_eq.mpr c2
  clear c2
  obtain rfl := Option.some.inj H
  go_enter Tryd.func147, Tryd.ntmps147
  go_wp2
  go_ret
  exact ⟨by first | rfl | (simp; done) | (simp [*]; done), by repeat (first | exact Drawn0.refl _ | apply Drawn0.step)⟩
 ·rw [if_neg c2] at H
  have c2b0 : (a0.toList == ([45, 62] : List UInt8)) = false := beq_eq_false_iff_ne.mpr c2
  have c2b1 : (a0.toList != ([45, 62] : List UInt8)) = true := bne_iff_ne.mpr c2
  by_cases c3 : a0.toList = ([60, 45] : List UInt8)
  ·rw [if_pos c3] at H
   have c3b0 : (a0.toList == ([60, 45] : List UInt8)) = true := beq_iff_eq.mpr c3
   have c3b1 : (a0.toList != ([60, 45] : List UInt8)) = false := bne_eq_false_iff_eq.mpr c3
   clear c3
   obtain rfl := Option.some.inj H
   go_enter Tryd.func147, Tryd.ntmps147
   go_wp2
   go_ret
   exact ⟨by first | rfl | (simp; done) | (simp [*]; done), by repeat (first | exact Drawn0.refl _ | apply Drawn0.step)⟩
  ·rw [if_neg c3] at H
   have c3b0 : (a0.toList == ([60, 45] : List UInt8)) = false := beq_eq_false_iff_ne.mpr c3
   have c3b1 : (a0.toList != ([60, 45] : List UInt8)) = true := bne_iff_ne.mpr c3
   by_cases c4 : a0.toList = ([61] : List UInt8)
   ·rw [if_pos c4] at H
    have c4b0 : (a0.toList == ([61] : List UInt8)) = true := beq_iff_eq.mpr c4
    have c4b1 : (a0.toList != ([61] : List UInt8)) = false := bne_eq_false_iff_eq.mpr c4
    clear c4
    obtain rfl := Option.some.inj H
    go_enter Tryd.func147, Tryd.ntmps147
    go_wp2
    go_ret
    exact ⟨by first | rfl | (simp; done) | (simp [*]; done), by repeat (first | exact Drawn0.refl _ | apply Drawn0.step)⟩
   ·rw [if_neg c4] at H
    have c4b0 : (a0.toList == ([61] : List UInt8)) = false := beq_eq_false_iff_ne.mpr c4
    have c4b1 : (a0.toList != ([61] : List UInt8)) = true := bne_iff_ne.mpr c4
    by_cases c5 : a0.toList = ([95] : List UInt8)
    ·rw [if_pos c5] at H
     have c5b0 : (a0.toList == ([95] : List UInt8)) = true := beq_iff_eq.mpr c5
     have c5b1 : (a0.toList != ([95] : List UInt8)) = false := bne_eq_false_iff_eq.mpr c5
     clear c5
     obtain rfl := Option.some.inj H
     go_enter Tryd.func147, Tryd.ntmps147
     go_wp2
     go_ret
     exact ⟨by first | rfl | (simp; done) | (simp [*]; done), by repeat (first | exact Drawn0.refl _ | apply Drawn0.step)⟩
    ·rw [if_neg c5] at H
     have c5b0 : (a0.toList == ([95] : List UInt8)) = false := beq_eq_false_iff_ne.mpr c5
     have c5b1 : (a0.toList != ([95] : List UInt8)) = true := bne_iff_ne.mpr c5
     by_cases c6 : a0.toList = ([116, 121, 112, 101] : List UInt8)
     ·rw [if_pos c6] at H
      have c6b0 : (a0.toList == ([116, 121, 112, 101] : List UInt8)) = true := beq_iff_eq.mpr c6
      have c6b1 : (a0.toList != ([116, 121, 112, 101] : List UInt8)) = false := bne_eq_false_iff_eq.mpr c6
      clear c6
      obtain rfl := Option.some.inj H
      go_enter Tryd.func147, Tryd.ntmps147
      go_wp2
      go_ret
      exact ⟨by first | rfl | (simp; done) | (simp [*]; done), by repeat (first | exact Drawn0.refl _ | apply Drawn0.step)⟩
     ·rw [if_neg c6] at H
      have c6b0 : (a0.toList == ([116, 121, 112, 101] : List UInt8)) = false := beq_eq_false_iff_ne.mpr c6
      have c6b1 : (a0.toList != ([116, 121, 112, 101] : List UInt8)) = true := bne_iff_ne.mpr c6
      obtain rfl := Option.some.inj H
      go_enter Tryd.func147, Tryd.ntmps147
      go_wp2
      go_ret
      exact ⟨by first | rfl | (simp; done) | (simp [*]; done), by repeat (first | exact Drawn0.refl _ | apply Drawn0.step)⟩
end Go.Proofs.YtpkkoiljombooaaDoor.G
