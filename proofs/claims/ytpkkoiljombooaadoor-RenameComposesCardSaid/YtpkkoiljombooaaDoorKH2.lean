import Derived.Test.YtpkkoiljombooaaDoorKG0
import Derived.Test.YtpkkoiljombooaaDoorKG4
import Derived.Test.YtpkkoiljombooaaDoorKH1
import Derived.Test.YtpkkoiljombooaaDoorKH1a
import Derived.Test.YtpkkoiljombooaaDoorKSp
import Derived.WalkKit
import Derived.Lib.Hide
import Derived.BigQuiet
import Derived.Deep.QuietTactic
set_option linter.unusedVariables false
namespace Go.Proofs.YtpkkoiljombooaaDoor.G
open Go.RowKit Go.Proofs.YtpkkoiljombooaaDoorW.PrintWords Go.Proofs.YtpkkoiljombooaaDoorW.PrintLast
def Asks (P : Program) (m : Nat) (caps : Array Value) (l : List Tm) (p : Tm → Bool) (w : World) : Prop :=
 ∀ x, x ∈ l → ∀ (A : Option Addr) (c : Nat) (W : World), Below w.heap.size w W → lies W A x.f3 → x.f3.length ≤ c →
  Calls P m (#[tv x A c] ++ caps) W fun e W' => e = .returned (.bool (p x)) ∧ Below W.heap.size W W'
set_option maxHeartbeats 1000000 in
set_option maxRecDepth 100000 in
theorem indexFunc_any (m : Nat) (caps : Array Value) (p : Tm → Bool) (A : Option Addr) (c : Nat) (l : List Tm) (w : World) (hr : lies w A l) (hm : l.length ≤ 9223372036854775807)
  (hp : Asks Tryd.prog m caps l p w) (hf : ∀ (a : Array Value) (W : World), Sem.run Tryd.prog (callFunc m a) W = .ok (.enter m a) W) :
  Calls Tryd.prog 148 #[.slice A l.length c, .func (.func m) #[] caps] w fun e w' => e = .returned (.int .i64 (idxB p l 0)) ∧ Below w.heap.size w w' := by
 have HP := Lib.hid hp
 have HR := yJ hr;clear hp hr
 go_enter Tryd.func148, Tryd.ntmps148
 go_wp2_with fail
 go_loopw [8] (fun i wr => ∃ k : Nat, k ≤ l.length ∧ i = .int .i64 k ∧ Aside0 (idxB p l 0 = idxB p (l.drop k) k) ∧ Aside0 (Below w.heap.size w wr)) (fun i _ => l.length - (intOf i).toNat)
 case atStart => exact ⟨0, Nat.zero_le _, rfl, ⟨by simp⟩, ⟨Below.refl _ _⟩⟩
 case round =>
  obtain ⟨k, hk, rfl, hi, hB⟩ := hrel
  by_cases hlt : k < l.length
  ·obtain ⟨x, ad, A3, c3, hx, ea, h0, h1, h2, h3, hl, hg⟩ := elem_at (Kd.C_below HR.out hB.out) k hlt
   have HG := yJ hg;have HL := yJ hl;have HX := yJ hx;clear hg hl hx;subst ea
   go_wp2_with fail
   refine (HP.out x (List.mem_of_getElem? HX.out) A3 c3 _ hB.out HG.out HL.out).mono ?_
   rintro e w' ⟨rfl, hB'⟩
   have hdr : l.drop k = x :: l.drop (k + 1) := by
    rw [List.drop_eq_getElem_cons hlt]; congr 1
    have := HX.out; rw [List.getElem?_eq_getElem hlt] at this; exact Option.some.inj this
   have HD := yJ hdr;clear hdr
   cases hb : p x with
   | true =>
    have HBx := yJ hb;clear hb
    go_wp2_with fail
    go_ret
    exact ⟨by rw [hi.out, HD.out]; simp [idxB, HBx.out], below_trans hB.out hB'⟩
   | false =>
    have HBx := yJ hb;clear hb
    go_wp2_with fail
    go_roundw
    case rel => exact ⟨k + 1, by omega, by go_num, ⟨by rw [hi.out, HD.out]; simp [idxB, HBx.out]⟩, ⟨below_trans hB.out hB'⟩⟩
    case measure => simp [intOf]; omega
  ·have he : k = l.length := by omega
   have HE := yJ he;clear he
   go_wp2_with fail
   go_ret
   exact ⟨by rw [hi.out, HE.out]; simp [idxB], hB.out⟩
theorem hf_all1 (a : Array Value) (W : World) : Sem.run Tryd.prog (callFunc 133 a) W = .ok (.enter 133 a) W := by kernel_rfl
set_option maxHeartbeats 1000000 in
set_option maxRecDepth 100000 in
theorem containsFunc_any (m : Nat) (p : Tm → Bool) (A : Option Addr) (c : Nat) (l : List Tm) (w : World) (hr : lies w A l) (hm : l.length ≤ 9223372036854775807)
  (hp : Asks Tryd.prog m #[] l p w) (hf : ∀ (a : Array Value) (W : World), Sem.run Tryd.prog (callFunc m a) W = .ok (.enter m a) W) :
  Calls Tryd.prog 132 #[.slice A l.length c, .func (.func m) #[] #[]] w fun e w' => e = .returned (.bool (l.any p)) ∧ Below w.heap.size w w' := by
 have HI := Lib.hid (indexFunc_any m #[] p A c l w hr hm hp hf)
 clear hf hp hr
 have hx := yJ (idxB_any p l 0 (by omega))
 go_enter Tryd.func132, Tryd.ntmps132
 go_wp2_with (go_at_call 148; (with_reducible refine HI.out.mono ?_); rintro e w' ⟨rfl, hB⟩)
 go_ret
 exact ⟨by rw [← hx.out]; rfl, hB⟩
def Ob (x : Tm) : Prop := ∀ (A : Option Addr) (c : Nat) (w : World), lies w A x.f3 → x.f3.length ≤ c →
 Calls Tryd.prog 74 #[tv x A c] w fun e w' => e = .returned (.bool (objB x)) ∧ Below w.heap.size w w'
set_option maxHeartbeats 1000000 in
theorem all1_any (x : Tm) (h : Ob x) (A : Option Addr) (c : Nat) (w : World) (hr : lies w A x.f3) (hc : x.f3.length ≤ c) :
  Calls Tryd.prog 133 #[tv x A c] w fun e w' => e = .returned (.bool (!objB x)) ∧ Below w.heap.size w w' := by
 have HI : Hid (∀ w', Below w.heap.size w w' → Calls Tryd.prog 74 #[tv x A c] w' fun e w'' => e = .returned (.bool (objB x)) ∧ Below w'.heap.size w' w'') :=
  Lib.hid (fun w' hb => h A c w' (Kd.C_below hr hb) hc)
 clear hr h
 go_enter Tryd.func133, Tryd.ntmps133
 go_wp2_with (go_at_call 74; (with_reducible refine (HI.out _ ?side).mono ?_); (case side => exact yF (Below.refl _ _) _); rintro e w' ⟨rfl, hB⟩)
 go_ret
 exact ⟨rfl, below_trans (yF (Below.refl _ _) _) hB⟩
set_option maxHeartbeats 1000000 in
theorem all_any (x : Tm) (h : ∀ y, y ∈ x.f3 → Ob y) (hm : x.f3.length ≤ 4611686018427387904) (A : Option Addr) (c : Nat) (w : World) (hr : lies w A x.f3) :
  Calls Tryd.prog 112 #[tv x A c] w fun e w' => e = .returned (.bool (objsB x.f3)) ∧ Below w.heap.size w w' := by
 have HI : Hid (∀ w', Below w.heap.size w w' → Calls Tryd.prog 132 #[.slice A x.f3.length c, .func (.func 133) #[] #[]] w' fun e w'' => e = .returned (.bool (x.f3.any fun y => !objB y)) ∧ Below w'.heap.size w' w'') :=
  Lib.hid (fun w' hb => containsFunc_any 133 (fun y => !objB y) A c x.f3 w' (Kd.C_below hr hb) (by omega)
   (fun y hy A' c' W hW hr' hc' => by simpa using all1_any y (h y hy) A' c' W hr' hc') hf_all1)
 have hx : Aside0 (objsB x.f3 = !(x.f3.any fun y => !objB y)) := ⟨by rw [objsB_all, List.all_eq_not_any_not]⟩
 clear hr h
 go_enter Tryd.func112, Tryd.ntmps112
 go_wp2_with (go_at_call 132; (with_reducible refine (HI.out _ ?side).mono ?_); (case side => exact yF (Below.refl _ _) _); rintro e w' ⟨rfl, hB⟩)
 go_ret
 exact ⟨by rw [hx.out]; rfl, below_trans (yF (Below.refl _ _) _) hB⟩
theorem isName_at (s : ByteArray) (b : Bool) (hb : Aside0 (isNameB s = b)) (w : World) : Calls Tryd.prog 131 #[.string s] w fun e w' => e = .returned (.bool b) ∧ Drawn0 w w' := by
 rw [← hb.out]; exact isName_any s w
theorem all_at (x : Tm) (h : ∀ y, y ∈ x.f3 → Ob y) (hm : x.f3.length ≤ 4611686018427387904) (A : Option Addr) (c : Nat) (w : World) (hr : lies w A x.f3) (b : Bool) (hb : Aside0 (objsB x.f3 = b)) :
  Calls Tryd.prog 112 #[tv x A c] w fun e w' => e = .returned (.bool b) ∧ Below w.heap.size w w' := by
 rw [← hb.out]; exact all_any x h hm A c w hr
set_option maxHeartbeats 2000000 in
theorem atom_any (x : Tm) (h : ∀ y, y ∈ x.f3 → Ob y) (hm : x.f3.length ≤ 4611686018427387904) (A : Option Addr) (c : Nat) (w : World) (hr : lies w A x.f3) :
  Calls Tryd.prog 111 #[tv x A c] w fun e w' => e = .returned (.bool (atomB x)) ∧ Below w.heap.size w w' := by
 have HA : Hid (∀ w', Below w.heap.size w w' → ∀ b, Aside0 (objsB x.f3 = b) → Calls Tryd.prog 112 #[tv x A c] w' fun e w'' => e = .returned (.bool b) ∧ Below w'.heap.size w' w'') :=
  Lib.hid (fun w' hb b h' => all_at x h hm A c w' (Kd.C_below hr hb) b h')
 clear hr h
 by_cases h0 : x.f0 = 4
 ·have h0b : (x.f0 == 4) = true := beq_iff_eq.mpr h0
  cases h1 : isNameB x.f1 with
  | false =>
   have hx : Aside0 (atomB x = false) := ⟨by simp [atomB, h0, h1]⟩
   have H1 := yJ h1;clear h1 h0
   go_enter Tryd.func111, Tryd.ntmps111
   go_wp2_with (go_at_call 131; (with_reducible refine (isName_at _ _ H1 _).mono ?_); rintro e w' ⟨rfl, ⟨nd, rfl⟩⟩)
   go_ret
   exact ⟨by rw [hx.out]; rfl, yG (yF (Below.refl _ _) _) nd⟩
  | true =>
   have H1 := yJ h1
   by_cases h2 : x.f2 = 0
   ·have hx : Aside0 (atomB x = objsB x.f3) := ⟨by simp [atomB, h0, h1, h2]⟩
    have h2b : (x.f2 == 0) = true := beq_iff_eq.mpr h2
    clear h1 h0 h2
    go_enter Tryd.func111, Tryd.ntmps111
    go_wp2_with (first | (go_at_call 131; (with_reducible refine (isName_at _ _ H1 _).mono ?_); rintro e w' ⟨rfl, ⟨nd, rfl⟩⟩) | (go_at_call 112; (with_reducible refine (HA.out _ ?side _ ⟨rfl⟩).mono ?_); (case side => exact yG (yF (Below.refl _ _) _) nd); rintro e w' ⟨rfl, hB⟩))
    go_ret
    exact ⟨by rw [hx.out]; rfl, below_trans (yG (yF (Below.refl _ _) _) nd) hB⟩
   ·have hx : Aside0 (atomB x = false) := ⟨by simp [atomB, h2]⟩
    have h2b : (x.f2 == 0) = false := beq_eq_false_iff_ne.mpr h2
    clear h1 h0
    go_enter Tryd.func111, Tryd.ntmps111
    go_wp2_with (go_at_call 131; (with_reducible refine (isName_at _ _ H1 _).mono ?_); rintro e w' ⟨rfl, ⟨nd, rfl⟩⟩)
    go_ret
    exact ⟨by rw [hx.out]; rfl, yG (yF (Below.refl _ _) _) nd⟩
 ·have hx : Aside0 (atomB x = false) := ⟨by simp [atomB, h0]⟩
  have h0b : (x.f0 == 4) = false := beq_eq_false_iff_ne.mpr h0
  go_enter Tryd.func111, Tryd.ntmps111
  go_wp2_with fail
  go_ret
  exact ⟨by rw [hx.out]; rfl, yF (Below.refl _ _) _⟩
theorem bound_some (x : Tm) (n : Int) : term_bound.f x.f0 x.f1 x.f2 x.f3 n = some (boundB x n) := by
 unfold term_bound.f boundB binderName token_IsName.f
 repeat (first | rfl | split) <;> simp_all
theorem bound_any (x : Tm) (n : Int) (b : Bool) (hb : Aside0 (boundB x n = b)) (A : Option Addr) (c : Nat) (w : World) (hr : lies w A x.f3) (hc : x.f3.length ≤ c) :
  Calls Tryd.prog 110 #[tv x A c, .int .i64 n] w fun e w' => e = .returned (.bool b) ∧ Below w.heap.size w w' :=
 term_bound.calls x.f0 x.f1 x.f2 A c x.f3 n b w hr hc (by rw [← hb.out]; exact bound_some x n)
theorem objB_eq (x : Tm) : objB x = if x.f0 = 3 then boundB x 1 && objsB x.f3 else if x.f0 = 4 then atomB x else if x.f0 = 5 then decide (x.f1.toList = []) && (decide (0 ≤ x.f2) && (decide (x.f2 ≤ 1048576) && objsB x.f3)) else if x.f0 = 6 then decide (x.f1.toList = []) && (decide (0 ≤ x.f2) && (decide (x.f2 < 2048) && objsB x.f3)) else false := by
 cases x
 simp only [objB, atomB]
 repeat (first | rfl | split) <;> simp_all
theorem add_none (ad : Addr) : ad.add 0 = ad := by
 cases ad with
 | mk b o e => cases e <;> simp [Addr.add]
theorem at_one {x : Tm} {w : World} {A : Option Addr} (hr : lies w A x.f3) (h : x.f3.length = 1) : ∃ (y : Tm) (ad : Addr) (A3 : Option Addr) (c3 : Nat), Aside0 (x.f3 = [y]) ∧ A = some ad ∧ w.cell? ad = some (.int .i64 y.f0) ∧ w.cell? ⟨ad.block, ad.off + 1, none⟩ = some (.string y.f1) ∧
   w.cell? ⟨ad.block, ad.off + 2, none⟩ = some (.int .i64 y.f2) ∧ w.cell? ⟨ad.block, ad.off + 3, none⟩ = some (.slice A3 y.f3.length c3) ∧ Aside0 (y.f3.length ≤ c3) ∧ Aside0 (lies w A3 y.f3) := by
 obtain ⟨y, ad, A3, c3, hx, ea, h0, h1, h2, h3, hl, hg⟩ := elem_at hr 0 (by omega)
 simp only [Nat.zero_mul, add_none] at h0 h1 h2 h3
 refine ⟨y, ad, A3, c3, ⟨?_⟩, ea, h0, h1, h2, h3, ⟨hl⟩, ⟨hg⟩⟩
 match hh : x.f3, h, hx with
 | [z], _, hx => simp at hx; rw [hx]
set_option maxHeartbeats 4000000 in
theorem object_5 (x : Tm) (hm : x.f3.length ≤ 4611686018427387904) (A : Option Addr) (c : Nat) (w : World) (hr : lies w A x.f3) (_hc : x.f3.length ≤ c) (h : ∀ y, y ∈ x.f3 → Ob y) (k5 : x.f0 = 5) :
  Calls Tryd.prog 74 #[tv x A c] w fun e w' => e = .returned (.bool (objB x)) ∧ Below w.heap.size w w' := by
 have HA : Hid (∀ w', Below w.heap.size w w' → ∀ b, Aside0 (objsB x.f3 = b) → Calls Tryd.prog 112 #[tv x A c] w' fun e w'' => e = .returned (.bool b) ∧ Below w'.heap.size w' w'') :=
  Lib.hid (fun w' hb b h' => all_at x h hm A c w' (Kd.C_below hr hb) b h')
 have hx := objB_eq x
 rw [if_neg (by omega), if_neg (by omega)] at hx
 rw [if_pos k5] at hx
 have k3b : (x.f0 == 3) = false := beq_eq_false_iff_ne.mpr (by omega)
 have k4b : (x.f0 == 4) = false := beq_eq_false_iff_ne.mpr (by omega)
 have k5b : (x.f0 == 5) = true := beq_iff_eq.mpr k5
 by_cases n0 : x.f1.toList = []
 ·by_cases i0 : 0 ≤ x.f2
  ·by_cases i1 : x.f2 ≤ 1048576
   ·have HX : Aside0 (objB x = objsB x.f3) := ⟨by rw [hx]; simp [n0, i0, i1]⟩
    clear hx k5 hr
    go_enter Tryd.func74, Tryd.ntmps74
    go_wp2_with (go_at_call 112; (with_reducible refine (HA.out _ ?side _ ⟨rfl⟩).mono ?_); (case side => exact yF (Below.refl _ _) _); rintro e w' ⟨rfl, hB⟩)
    go_ret
    exact ⟨by rw [HX.out]; rfl, below_trans (yF (Below.refl _ _) _) hB⟩
   ·have HX : Aside0 (objB x = false) := ⟨by rw [hx]; simp [n0, i0, i1]⟩
    clear hx k5 hr HA
    go_enter Tryd.func74, Tryd.ntmps74
    go_wp2_with fail
    go_ret
    exact ⟨by rw [HX.out]; rfl, yF (Below.refl _ _) _⟩
  ·have HX : Aside0 (objB x = false) := ⟨by rw [hx]; simp [n0, i0]⟩
   clear hx k5 hr HA
   go_enter Tryd.func74, Tryd.ntmps74
   go_wp2_with fail
   go_ret
   exact ⟨by rw [HX.out]; rfl, yF (Below.refl _ _) _⟩
 ·have HX : Aside0 (objB x = false) := ⟨by rw [hx]; simp [n0]⟩
  clear hx k5 hr HA
  go_enter Tryd.func74, Tryd.ntmps74
  go_wp2_with fail
  go_ret
  exact ⟨by rw [HX.out]; rfl, yF (Below.refl _ _) _⟩
set_option maxHeartbeats 4000000 in
theorem object_6 (x : Tm) (hm : x.f3.length ≤ 4611686018427387904) (A : Option Addr) (c : Nat) (w : World) (hr : lies w A x.f3) (_hc : x.f3.length ≤ c) (h : ∀ y, y ∈ x.f3 → Ob y) (k6 : x.f0 = 6) :
  Calls Tryd.prog 74 #[tv x A c] w fun e w' => e = .returned (.bool (objB x)) ∧ Below w.heap.size w w' := by
 have HA : Hid (∀ w', Below w.heap.size w w' → ∀ b, Aside0 (objsB x.f3 = b) → Calls Tryd.prog 112 #[tv x A c] w' fun e w'' => e = .returned (.bool b) ∧ Below w'.heap.size w' w'') :=
  Lib.hid (fun w' hb b h' => all_at x h hm A c w' (Kd.C_below hr hb) b h')
 have hx := objB_eq x
 rw [if_neg (by omega), if_neg (by omega)] at hx
 rw [if_neg (by omega), if_pos k6] at hx
 have k3b : (x.f0 == 3) = false := beq_eq_false_iff_ne.mpr (by omega)
 have k4b : (x.f0 == 4) = false := beq_eq_false_iff_ne.mpr (by omega)
 have k5b : (x.f0 == 5) = false := beq_eq_false_iff_ne.mpr (by omega)
 have k6b : (x.f0 == 6) = true := beq_iff_eq.mpr k6
 by_cases n0 : x.f1.toList = []
 ·by_cases i0 : 0 ≤ x.f2
  ·by_cases i1 : x.f2 < 2048
   ·have HX : Aside0 (objB x = objsB x.f3) := ⟨by rw [hx]; simp [n0, i0, i1]⟩
    clear hx k6 hr
    go_enter Tryd.func74, Tryd.ntmps74
    go_wp2_with (go_at_call 112; (with_reducible refine (HA.out _ ?side _ ⟨rfl⟩).mono ?_); (case side => exact yF (Below.refl _ _) _); rintro e w' ⟨rfl, hB⟩)
    go_ret
    exact ⟨by rw [HX.out]; rfl, below_trans (yF (Below.refl _ _) _) hB⟩
   ·have HX : Aside0 (objB x = false) := ⟨by rw [hx]; simp [n0, i0, i1]⟩
    clear hx k6 hr HA
    go_enter Tryd.func74, Tryd.ntmps74
    go_wp2_with fail
    go_ret
    exact ⟨by rw [HX.out]; rfl, yF (Below.refl _ _) _⟩
  ·have HX : Aside0 (objB x = false) := ⟨by rw [hx]; simp [n0, i0]⟩
   clear hx k6 hr HA
   go_enter Tryd.func74, Tryd.ntmps74
   go_wp2_with fail
   go_ret
   exact ⟨by rw [HX.out]; rfl, yF (Below.refl _ _) _⟩
 ·have HX : Aside0 (objB x = false) := ⟨by rw [hx]; simp [n0]⟩
  clear hx k6 hr HA
  go_enter Tryd.func74, Tryd.ntmps74
  go_wp2_with fail
  go_ret
  exact ⟨by rw [HX.out]; rfl, yF (Below.refl _ _) _⟩
set_option maxHeartbeats 4000000 in
theorem object_step (x : Tm) (h : ∀ y, y ∈ x.f3 → Ob y) (hm : x.f3.length ≤ 4611686018427387904) : Ob x := by
 intro A c w hr hc
 have HA : Hid (∀ w', Below w.heap.size w w' → ∀ b, Aside0 (objsB x.f3 = b) → Calls Tryd.prog 112 #[tv x A c] w' fun e w'' => e = .returned (.bool b) ∧ Below w'.heap.size w' w'') :=
  Lib.hid (fun w' hb b h' => all_at x h hm A c w' (Kd.C_below hr hb) b h')
 have HT : Hid (∀ w', Below w.heap.size w w' → Calls Tryd.prog 111 #[tv x A c] w' fun e w'' => e = .returned (.bool (atomB x)) ∧ Below w'.heap.size w' w'') :=
  Lib.hid (fun w' hb => atom_any x h hm A c w' (Kd.C_below hr hb))
 have HB : Hid (∀ w', Below w.heap.size w w' → ∀ b, Aside0 (boundB x 1 = b) → Calls Tryd.prog 110 #[tv x A c, .int .i64 1] w' fun e w'' => e = .returned (.bool b) ∧ Below w'.heap.size w' w'') :=
  Lib.hid (fun w' hb b h' => bound_any x 1 b h' A c w' (Kd.C_below hr hb) hc)
 have HH := Lib.hid h
 clear h
 have hx := objB_eq x
 by_cases k3 : x.f0 = 3
 ·rw [if_pos k3] at hx
  have k3b : (x.f0 == 3) = true := beq_iff_eq.mpr k3
  cases hb : boundB x 1 with
  | false =>
   have HX : Aside0 (objB x = false) := ⟨by rw [hx, hb]; rfl⟩
   have HBf := yJ hb;clear hx k3 hb
   go_enter Tryd.func74, Tryd.ntmps74
   go_wp2_with (go_at_call 110; (with_reducible refine (HB.out _ ?side _ HBf).mono ?_); (case side => exact yF (Below.refl _ _) _); rintro e w' ⟨rfl, hB⟩)
   go_ret
   exact ⟨by rw [HX.out]; rfl, below_trans (yF (Below.refl _ _) _) hB⟩
  | true =>
   have hl : x.f3.length = 1 := by
    simp only [boundB, Bool.and_eq_true, decide_eq_true_eq] at hb; omega
   have hl0 : 0 < x.f3.length := by omega
   have HL := yJ hl
   have HX : Aside0 (objB x = objsB x.f3) := ⟨by rw [hx, hb]; rfl⟩
   have HBf := yJ hb;have HR := yJ hr;clear hx k3 hb hl hr HA HT
   go_enter Tryd.func74, Tryd.ntmps74
   go_wp2_with (go_at_call 110; (with_reducible refine (HB.out _ ?side _ HBf).mono ?_); (case side => exact yF (Below.refl _ _) _); rintro e w' ⟨rfl, hB⟩; obtain ⟨y, ad, A3, c3, HY, ea, h0, h1, h2, h3, HC, HG⟩ := at_one (Kd.C_below HR.out (below_trans (yF (Below.refl _ _) _) hB)) HL.out; subst ea; obtain ⟨hcb, hfb⟩ := bcell hB)
   refine (HH.out y (by rw [HY.out]; simp) A3 c3 w' HG.out HC.out).mono ?_
   rintro e w'' ⟨rfl, hB2⟩
   go_wp2_with fail
   go_ret
   exact ⟨by rw [HX.out, HY.out]; simp [objsB], below_trans (below_trans (yF (Below.refl _ _) _) hB) hB2⟩
 ·rw [if_neg k3] at hx
  have k3b : (x.f0 == 3) = false := beq_eq_false_iff_ne.mpr k3
  by_cases k4 : x.f0 = 4
  ·rw [if_pos k4] at hx
   have k4b : (x.f0 == 4) = true := beq_iff_eq.mpr k4
   have HX := yJ hx;clear hx k3 k4 hr HA HB
   go_enter Tryd.func74, Tryd.ntmps74
   go_wp2_with (go_at_call 111; (with_reducible refine (HT.out _ ?side).mono ?_); (case side => exact yF (Below.refl _ _) _); rintro e w' ⟨rfl, hB⟩)
   go_ret
   exact ⟨by rw [HX.out]; rfl, below_trans (yF (Below.refl _ _) _) hB⟩
  ·rw [if_neg k4] at hx
   have k4b : (x.f0 == 4) = false := beq_eq_false_iff_ne.mpr k4
   by_cases k5 : x.f0 = 5
   ·rw [if_pos k5] at hx
    exact object_5 x hm A c w hr hc HH.out k5
   ·rw [if_neg k5] at hx
    have k5b : (x.f0 == 5) = false := beq_eq_false_iff_ne.mpr k5
    by_cases k6 : x.f0 = 6
    ·exact object_6 x hm A c w hr hc HH.out k6
    ·rw [if_neg k6] at hx
     have k6b : (x.f0 == 6) = false := beq_eq_false_iff_ne.mpr k6
     have HX := yJ hx;clear hx k3 k4 k5 k6 hr HA HT HB
     go_enter Tryd.func74, Tryd.ntmps74
     go_wp2_with fail
     go_ret
     exact ⟨by rw [HX.out]; rfl, yF (Below.refl _ _) _⟩
theorem object_any : ∀ (n : Nat) (x : Tm), SizeOf.sizeOf x < n → fitT x = true → Ob x := by
 intro n
 induction n with
 | zero => intro x h; omega
 | succ n ih =>
  intro x hn hf
  obtain ⟨hl, hf'⟩ := fitT_len hf
  exact object_step x (fun y hy => ih y (by have := sizeOf_arg hy; omega) (fitL_mem hf' y hy)) hl
theorem object_ok (x : Tm) (hf : fitT x = true) : Ob x := object_any _ x (Nat.lt_succ_self _) hf
def term_object.f (a0_0 : Int) (a0_1 : ByteArray) (a0_2 : Int) (l0_3 : List Tm) : Option Bool := if fitT ⟨a0_0, a0_1, a0_2, l0_3⟩ then some (objB ⟨a0_0, a0_1, a0_2, l0_3⟩) else none
theorem term_object.calls (a0_0 : Int) (a0_1 : ByteArray) (a0_2 : Int) (A0_3 : Option Addr) (c0_3 : Nat) (l0_3 : List Tm) (r : Bool) (w : World) (hr0_3 : lies w A0_3 l0_3) (hc0_3 : l0_3.length ≤ c0_3) (h : term_object.f a0_0 a0_1 a0_2 l0_3 = some r) :
  Calls Tryd.prog 74 #[.agg #[.int .i64 a0_0, .string a0_1, .int .i64 a0_2, .slice A0_3 l0_3.length c0_3]] w fun e w' => e = .returned (.bool r) ∧ Below w.heap.size w w' := by
 unfold term_object.f at h
 split at h
 ·next hf => cases h; exact object_ok _ hf A0_3 c0_3 w hr0_3 hc0_3
 ·cases h
def term_all.f (a0_0 : Int) (a0_1 : ByteArray) (a0_2 : Int) (l0_3 : List Tm) : Option Bool := if fitT ⟨a0_0, a0_1, a0_2, l0_3⟩ then some (objsB l0_3) else none
def term_atom.f (a0_0 : Int) (a0_1 : ByteArray) (a0_2 : Int) (l0_3 : List Tm) : Option Bool := if fitT ⟨a0_0, a0_1, a0_2, l0_3⟩ then some (atomB ⟨a0_0, a0_1, a0_2, l0_3⟩) else none
theorem term_atom.calls (a0_0 : Int) (a0_1 : ByteArray) (a0_2 : Int) (A0_3 : Option Addr) (c0_3 : Nat) (l0_3 : List Tm) (r : Bool) (w : World) (hr0_3 : lies w A0_3 l0_3) (hc0_3 : l0_3.length ≤ c0_3) (h : term_atom.f a0_0 a0_1 a0_2 l0_3 = some r) :
  Calls Tryd.prog 111 #[.agg #[.int .i64 a0_0, .string a0_1, .int .i64 a0_2, .slice A0_3 l0_3.length c0_3]] w fun e w' => e = .returned (.bool r) ∧ Below w.heap.size w w' := by
 unfold term_atom.f at h
 split at h
 ·next hf => cases h; exact atom_any ⟨a0_0, a0_1, a0_2, l0_3⟩ (fun y hy => object_ok y (fitL_mem (fitT_len hf).2 y hy)) (fitT_len hf).1 A0_3 c0_3 w hr0_3
 ·cases h
end Go.Proofs.YtpkkoiljombooaaDoor.G
