import Derived.Test.YtpkkoiljombooaaDoorKG0
import Derived.Test.YtpkkoiljombooaaDoorKG3
import Derived.Test.YtpkkoiljombooaaDoorKH1a
import Derived.WalkKit
import Derived.Lib.Hide
import Derived.BigQuiet
import Derived.Deep.QuietTactic
set_option linter.unusedVariables false
namespace Go.Proofs.YtpkkoiljombooaaDoor.G
open Go.RowKit Go.Proofs.YtpkkoiljombooaaDoorW.PrintWords Go.Proofs.YtpkkoiljombooaaDoorW.PrintLast
def nmB (c : Int) : Bool := decide (c > 32) && (decide (c < 127) && decide (Lib.indexByte ([40, 41, 91, 93, 123, 125, 58, 46, 37] : List UInt8) c.toNat.toUInt8 < 0))
theorem nameByte_eq (c : Int) : token_nameByte.f c = some (nmB c) := by
 unfold token_nameByte.f nmB strings_IndexByte.f
 by_cases h1 : c > 32
 ·by_cases h2 : c < 127 <;> simp [h1, h2]
 ·simp [h1]
def runN : List UInt8 → Nat
 | [] => 0
 | c :: r => if nmB c.toNat then runN r + 1 else 0
theorem nameByte_any (c : Int) (w : World) : Calls Tryd.prog 146 #[.int .u8 c] w fun e w' => e = .returned (.bool (nmB c)) ∧ Drawn0 w w' :=
 token_nameByte.calls c _ w (nameByte_eq c)
theorem drop_at (s : ByteArray) (k : Nat) (h : k < s.size) : s.data.toList.drop k = s[k] :: s.data.toList.drop (k + 1) := by
 rw [List.drop_eq_getElem_cons (by simpa using h)]; rfl
set_option maxHeartbeats 400000 in
theorem run_any (s : ByteArray) (w : World) (hs : s.size ≤ 64) :
  Calls Tryd.prog 145 #[.string s, .int .i64 0, .func (.func 146) #[] #[]] w fun e w' => e = .returned (.int .i64 (runN s.data.toList)) ∧ Drawn0 w w' := by
 go_enter Tryd.func145, Tryd.ntmps145
 go_wp2_with fail
 go_loopw [1] (fun i wr => ∃ k : Nat, k ≤ s.size ∧ i = .int .i64 k ∧ Aside0 (runN s.data.toList = k + runN (s.data.toList.drop k)) ∧ Aside0 (Drawn0 w wr)) (fun i _ => s.size - (intOf i).toNat)
 case atStart => exact ⟨0, Nat.zero_le _, rfl, ⟨by simp⟩, ⟨Drawn0.refl _⟩⟩
 case round =>
  obtain ⟨k, hk, rfl, hr, hd⟩ := hrel
  by_cases hlt : k < s.size
  ·cases hb : nmB (s[k].toNat : Int) with
   | true =>
    have HB := yJ hb;clear hb
    go_wp2_with (go_at_call 146; refine (nameByte_any _ _).mono ?_; rintro e w' ⟨rfl, hd1⟩; rw [HB.out])
    go_roundw
    case rel => exact ⟨k + 1, by omega, by go_num, ⟨by rw [hr.out, drop_at s k hlt]; simp only [runN, HB.out, if_true]; omega⟩, ⟨drawn_trans hd.out hd1⟩⟩
    case measure => simp [intOf]; omega
   | false =>
    have HB := yJ hb;clear hb
    go_wp2_with (go_at_call 146; refine (nameByte_any _ _).mono ?_; rintro e w' ⟨rfl, hd1⟩; rw [HB.out])
    go_ret
    exact ⟨by rw [hr.out, drop_at s k hlt]; simp [runN, HB.out], drawn_trans hd.out hd1⟩
  ·have he : k = s.size := by omega
   have HE := yJ he;clear he
   go_wp2_with fail
   go_ret
   exact ⟨by rw [hr.out, HE.out, List.drop_eq_nil_of_le (by simp)]; simp [runN], hd.out⟩
theorem toList_nil (s : ByteArray) : s.toList = [] ↔ s.size = 0 := by
 rw [toList_nil_iff_emptyBytes]
 constructor
 ·rintro rfl; rfl
 ·intro h; exact ByteArray.ext (by apply Array.eq_empty_of_size_eq_zero; exact h)
def isNameB (s : ByteArray) : Bool := !decide (s.size = 0) && (decide (s.size ≤ 64) && (decide (runN s.data.toList = s.size) && (!((token_reserved.f s).getD false) && !(bt s 0 == 64))))
def token_IsName.f (a0 : ByteArray) : Option Bool := some (isNameB a0)
theorem reserved_some (s : ByteArray) : token_reserved.f s = some ((token_reserved.f s).getD false) := by
 unfold token_reserved.f; repeat (first | rfl | split)
theorem reserved_any (s : ByteArray) (b : Bool) (hb : Aside0 ((token_reserved.f s).getD false = b)) (w : World) : Calls Tryd.prog 147 #[.string s] w fun e w' => e = .returned (.bool b) ∧ Drawn0 w w' :=
 token_reserved.calls s _ w (by rw [reserved_some, hb.out])
set_option maxHeartbeats 1000000 in
theorem isName_any (s : ByteArray) (w : World) :
  Calls Tryd.prog 131 #[.string s] w fun e w' => e = .returned (.bool (isNameB s)) ∧ Drawn0 w w' := by
 by_cases h0 : s.size = 0
 ·have hz : s.toList = [] := (toList_nil s).2 h0
  have hr : Aside0 (isNameB s = false) := ⟨by simp [isNameB, h0]⟩
  clear h0
  go_enter Tryd.func131, Tryd.ntmps131
  go_wp2_with fail
  go_ret
  exact ⟨by rw [hr.out]; rfl, Drawn0.refl _⟩
 have hz : ¬ s.toList = [] := fun h => h0 ((toList_nil s).1 h)
 by_cases h1 : s.size ≤ 64
 ·have hr : Aside0 (isNameB s = (decide (runN s.data.toList = s.size) && (!((token_reserved.f s).getD false) && !(bt s 0 == 64)))) := ⟨by simp [isNameB, h0, h1]⟩
  cases h2 : decide (runN s.data.toList = s.size) with
  | false =>
   have h2' : ((runN s.data.toList : Int) == (s.size : Int)) = false := by simp at h2 ⊢; omega
   have H2 := yJ h2;clear h2
   go_enter Tryd.func131, Tryd.ntmps131
   go_wp2_with (go_at_call 145; refine (run_any _ _ h1).mono ?_; rintro e w' ⟨rfl, hd1⟩)
   go_ret
   exact ⟨by rw [hr.out, H2.out]; rfl, hd1⟩
  | true =>
   have h2' : ((runN s.data.toList : Int) == (s.size : Int)) = true := by simp at h2 ⊢; omega
   have H2 := yJ h2;clear h2
   cases h3 : (token_reserved.f s).getD false with
   | true =>
    have H3 := yJ h3;clear h3
    go_enter Tryd.func131, Tryd.ntmps131
    go_wp2_with (first | (go_at_call 145; (with_reducible refine (run_any _ _ h1).mono ?_); rintro e w' ⟨rfl, hd1⟩) | (go_at_call 147; (with_reducible refine (reserved_any _ _ H3 _).mono ?_); rintro e w'' ⟨rfl, hd2⟩))
    go_ret
    exact ⟨by rw [hr.out, H2.out, H3.out]; rfl, drawn_trans hd1 hd2⟩
   | false =>
    have H3 := yJ h3;clear h3
    have hp : (0 : Int) < (s.size : Int) := by omega
    have hb : ((s[0]'(by omega)).toNat : Int) = bt s 0 := bt_at s 0 (by simpa using (by omega : 0 < s.size))
    go_enter Tryd.func131, Tryd.ntmps131
    go_wp2_with (first | (go_at_call 145; (with_reducible refine (run_any _ _ h1).mono ?_); rintro e w' ⟨rfl, hd1⟩) | (go_at_call 147; (with_reducible refine (reserved_any _ _ H3 _).mono ?_); rintro e w'' ⟨rfl, hd2⟩))
    go_ret
    exact ⟨by rw [hr.out, H2.out, H3.out]; simp [hz, bne], drawn_trans hd1 hd2⟩
 ·have hr : Aside0 (isNameB s = false) := ⟨by simp [isNameB, h1]⟩
  have h1' : ¬ ((s.size : Int) ≤ 64) := by omega
  clear h1
  go_enter Tryd.func131, Tryd.ntmps131
  go_wp2_with fail
  go_ret
  exact ⟨by rw [hr.out]; rfl, Drawn0.refl _⟩
theorem token_IsName.calls (a0 : ByteArray) (r : Bool) (w : World) (h : token_IsName.f a0 = some r) :
  Calls Tryd.prog 131 #[.string a0] w fun e w' => e = .returned (.bool r) ∧ Drawn0 w w' := by
 unfold token_IsName.f at h; cases h; exact isName_any a0 w
end Go.Proofs.YtpkkoiljombooaaDoor.G
