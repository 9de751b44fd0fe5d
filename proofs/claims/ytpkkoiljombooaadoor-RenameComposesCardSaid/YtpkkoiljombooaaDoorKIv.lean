import Derived.Test.YtpkkoiljombooaaDoorKG0
import Derived.Test.YtpkkoiljombooaaDoorKRp
set_option linter.unusedVariables false
set_option linter.unusedSimpArgs false
namespace Go.Proofs.YtpkkoiljombooaaDoor.G
open Go.RowKit Go.Proofs.YtpkkoiljombooaaDoorW.PrintWords Go.Proofs.YtpkkoiljombooaaDoorW.PrintLast Go.Proofs.YtpkkoiljombooaaDoorW.PrintMore
def invL (n : Int) : List Int → Nat → List Int → Option (List Int)
 | [], _, out => some out
 | x :: r, i, out => if x < 0 then invL n r (i + 1) out else if x ≥ n ∨ rd out x ≥ 0 then none else invL n r (i + 1) (out.set x.toNat i)
def InvEnds (to_ : List Int) (n : Int) (W : World) (e : Ending) (W' : World) : Prop :=
 Below W.heap.size W W' ∧
 ((¬ (0 ≤ n ∧ n ≤ 1048576) ∧ e = .returned (.tuple #[.slice none 0 0, .bool false])) ∨
  ((0 ≤ n ∧ n ≤ 1048576) ∧ invL n to_ 0 (List.replicate n.toNat (-1)) = none ∧ e = .returned (.tuple #[.slice none 0 0, .bool false])) ∨
  ((0 ≤ n ∧ n ≤ 1048576) ∧ ∃ out v, invL n to_ 0 (List.replicate n.toNat (-1)) = some out ∧ e = .returned (.tuple #[v, .bool true]) ∧ Kd.R (Kd.int .i64) 3 W' W.heap.size (fun k => W.heap.size ≤ k) v out))
set_option maxHeartbeats 4000000 in
set_option maxRecDepth 100000 in
theorem invert_calls (to_ : List Int) (At : Option Addr) (ct : Nat) (n : Int) (W : World) (hT : Kd.C (Kd.int .i64) W At to_.length to_) (hl : to_.length ≤ 1000000) :
  Calls Tryd.prog 70 #[.slice At to_.length ct, .int .i64 n] W (InvEnds to_ n W) := by
 have HT := Lib.hid hT
 clear hT
 by_cases h0 : n < 0
 ·have h0b : decide (n < 0) = true := decide_eq_true h0
  go_enter Tryd.func70, Tryd.ntmps70
  go_wp2_with fail
  go_ret2
  exact ⟨Below.refl _ _, .inl ⟨by omega, rfl⟩⟩
 ·have h0b : decide (n < 0) = false := decide_eq_false h0
  by_cases h1 : n > 1048576
  ·have h1b : decide (n > 1048576) = true := decide_eq_true h1
   go_enter Tryd.func70, Tryd.ntmps70
   go_wp2_with fail
   go_ret2
   exact ⟨Below.refl _ _, .inl ⟨by omega, rfl⟩⟩
  ·have h1b : decide (n > 1048576) = false := decide_eq_false h1
   obtain ⟨m, rfl⟩ : ∃ m : Nat, n = m := ⟨n.toNat, by omega⟩
   go_enter Tryd.func70, Tryd.ntmps70
   go_wp2_with fail
   refine (repeat_calls (-1) ⟨W.heap.size, 0, none⟩ m (by omega) _ ((yE (blk_new W _) 0).trans rfl)).mono ?_
   rintro e W1 ⟨v, rfl, hR, hb⟩
   obtain ⟨A1, cc, rfl⟩ := Kd.R_slice hR
   rw [List.length_replicate] at hR
   have hb1 : Below W.heap.size W W1 := (yF (Below.refl W.heap.size W) (.cells #[.int .i64 (-1)] 3)).trans ⟨hb.os, hb.tape, hb.output, hb.size, fun k hk => hb.block k (Nat.lt_of_lt_of_le hk (by simp))⟩
   have HR := Lib.hid (Kd.R_mono (ok' := fun k => W.heap.size ≤ k) (Kd.R_lower hR (by simp : W.heap.size ≤ _)) (fun k hk => Nat.le_trans (by simp) hk))
   have HB := Lib.hid hb1
   clear hR hb hb1
   rw [List.length_replicate]
   go_wp2_with fail
   go_loopw [20] (fun v20 wr => ∃ (i : Nat) (out : List Int), i ≤ to_.length ∧ v20 = .int .i64 i ∧ out.length = m ∧ Hid (invL m (to_.drop i) i out = invL m to_ 0 (List.replicate m (-1))) ∧ Hid (Kd.R (Kd.int .i64) 3 wr W.heap.size (fun k => W.heap.size ≤ k) (.slice A1 m cc) out) ∧ Hid (Below W.heap.size W wr)) (fun v20 _ => to_.length - (intOf v20).toNat)
   case atStart => exact ⟨0, _, Nat.zero_le _, rfl, List.length_replicate, Lib.hid (by rw [List.drop_zero]), HR, HB⟩
   case round =>
    obtain ⟨i, out, hi, rfl, ho, HI, HRi, HBi⟩ := hrel
    by_cases hlt : i < to_.length
    ·obtain ⟨ad, ea, hcm⟩ := Kd.at_int (Kd.C_below HT.out HBi.out) (i : Int) (by omega) (by omega)
     subst ea
     rw [Int.toNat_natCast] at hcm
     have HD : Hid (to_.drop i = rd to_ i :: to_.drop (i + 1)) := Lib.hid (by
      rw [List.drop_eq_getElem_cons hlt]
      congr 1
      unfold rd
      rw [Int.toNat_natCast, List.getD_eq_getElem?_getD, List.getElem?_eq_getElem hlt]; rfl)
     generalize rd to_ i = x at hcm HD
     have hwr : IntKind.i64.wrap ((i : Int) + 1) = ((i + 1 : Nat) : Int) := by rw [IntKind.wrap_i64]; omega
     by_cases hx : x < 0
     ·have hxb : decide (x < 0) = true := decide_eq_true hx
      have HN : Hid (invL m (to_.drop (i + 1)) (i + 1) out = invL m to_ 0 (List.replicate m (-1))) := Lib.hid (by rw [← HI.out, HD.out, invL, if_pos hx])
      clear hx
      go_wp2_with fail
      go_roundw
      case rel => exact ⟨i + 1, out, by omega, by go_num, ho, HN, HRi, HBi⟩
      case measure => simp [intOf]; omega
     ·have hxb : decide (x < 0) = false := decide_eq_false hx
      by_cases hm : x ≥ m
      ·have hmb : decide (x ≥ (m : Int)) = true := decide_eq_true hm
       have HN : Hid (invL m to_ 0 (List.replicate m (-1)) = none) := Lib.hid (by rw [← HI.out, HD.out, invL, if_neg hx, if_pos (.inl hm)])
       clear hm
       go_wp2_with fail
       go_ret2
       exact ⟨HBi.out, .inr (.inl ⟨⟨by omega, by omega⟩, HN.out, rfl⟩)⟩
      ·have hmb : decide (x ≥ (m : Int)) = false := decide_eq_false hm
       obtain ⟨ad1, c1, e1⟩ := Kd.R_slice1 HRi.out (by omega)
       injection e1 with e1 e2 e3
       subst e1 e3
       clear e2
       obtain ⟨g, rfl⟩ := Kd.R_head HRi.out
       obtain ⟨k, rfl⟩ : ∃ k : Nat, x = k := ⟨x.toNat, by omega⟩
       obtain ⟨cy, fy⟩ := Kd.R_celln (0 : Int) HRi.out (k : Int) (by omega) (by omega)
       rw [Int.toNat_natCast] at cy fy
       change wr.cell? ⟨g, k, none⟩ = some (.int .i64 (rd out (k : Int))) at cy
       have hk : k < m := by omega
       by_cases hy : rd out (k : Int) ≥ 0
       ·have HN : Hid (invL m to_ 0 (List.replicate m (-1)) = none) := Lib.hid (by rw [← HI.out, HD.out, invL, if_neg hx, if_pos (.inr hy)])
        have hyb : decide (rd out (k : Int) ≥ 0) = true := decide_eq_true hy
        have HO := Lib.hid (And.intro ho (show m ≤ 1048576 by omega))
        clear hy HI HD hx hm ho h0 h1
        generalize rd out (k : Int) = y at cy hyb
        go_wp2_with fail
        go_ret2
        have hO := HO.out
        exact ⟨HBi.out, .inr (.inl ⟨⟨by omega, by omega⟩, HN.out, rfl⟩)⟩
       ·have HN : Hid (invL m (to_.drop (i + 1)) (i + 1) (out.set k i) = invL m to_ 0 (List.replicate m (-1))) := Lib.hid (by rw [← HI.out, HD.out, invL, if_neg hx, if_neg (by rintro (h | h); exact hm h; exact hy h), Int.toNat_natCast])
        have hyb : decide (rd out (k : Int) ≥ 0) = false := decide_eq_false hy
        have hp := Kd.R_putg HRi.out (k : Int) (i : Int)
        rw [Int.toNat_natCast] at hp
        have HP := Lib.hid hp.1
        have HB2 : Hid (Below W.heap.size W (wr.setCell ⟨g, k, none⟩ (.int .i64 i))) := Lib.hid (HBi.out.setCell (HRi.out.1 g (by simp [Value.ownBlock])) _)
        have HO := Lib.hid (And.intro ho (And.intro (show m ≤ 1048576 by omega) hlt))
        clear hy hp HI HD hx hm ho h0 h1
        generalize rd out (k : Int) = y at cy hyb
        go_wp2_with fail
        go_roundw
        case rel => exact ⟨i + 1, out.set k i, by omega, by go_num, by rw [List.length_set]; exact HO.out.1, HN, HP, HB2⟩
        case measure => simp [intOf]; omega
    ·have he : i = to_.length := by omega
     have HN : Hid (invL m to_ 0 (List.replicate m (-1)) = some out) := Lib.hid (by rw [← HI.out, he, List.drop_length, invL])
     go_wp2_with fail
     go_ret2
     exact ⟨HBi.out, .inr (.inr ⟨⟨by omega, by omega⟩, out, _, HN.out, rfl, HRi.out⟩)⟩
end Go.Proofs.YtpkkoiljombooaaDoor.G
