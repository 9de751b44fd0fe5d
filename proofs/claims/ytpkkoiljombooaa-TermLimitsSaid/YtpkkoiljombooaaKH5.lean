import Derived.Test.YtpkkoiljombooaaKG0
import Derived.Test.YtpkkoiljombooaaKB
import Derived.Test.YtpkkoiljombooaaKSp
import Derived.WalkKit
import Derived.Lib.Hide
import Derived.BigQuiet
import Derived.Deep.QuietTactic
set_option linter.unusedVariables false
namespace Go.Proofs.Ytpkkoiljombooaa.G
open Go.RowKit Go.Proofs.YtpkkoiljombooaaW.PrintWords Go.Proofs.YtpkkoiljombooaaW.PrintLast
mutual
def sameT : Tm → Tm → Bool
 | ⟨k, n, i, ts⟩, ⟨k', n', i', ts'⟩ => decide (k = k') && (decide (i = i') && ((decide (n.toList = n'.toList) || (decide (k = 2) || decide (k = 3))) && sameL ts ts'))
def sameL : List Tm → List Tm → Bool
 | [], [] => true
 | t :: ts, t' :: ts' => sameT t t' && sameL ts ts'
 | _, _ => false
end
theorem sameT_eq (x y : Tm) : sameT x y = (decide (x.f0 = y.f0) && (decide (x.f2 = y.f2) && ((decide (x.f1.toList = y.f1.toList) || (decide (x.f0 = 2) || decide (x.f0 = 3))) && sameL x.f3 y.f3))) := by
 cases x; cases y; simp only [sameT]
def Sm (x : Tm) : Prop := ∀ (y : Tm) (A : Option Addr) (c : Nat) (A' : Option Addr) (c' : Nat) (w : World), lies w A x.f3 → lies w A' y.f3 →
 Calls Try.prog 24 #[tv x A c, tv y A' c'] w fun e w' => e = .returned (.bool (sameT x y)) ∧ Below w.heap.size w w'
theorem sameL_len {a b : List Tm} (h : a.length ≠ b.length) : sameL a b = false := by
 induction a generalizing b with
 | nil => cases b with
  | nil => simp at h
  | cons y b => rfl
 | cons x a ih => cases b with
  | nil => rfl
  | cons y b =>
   have := ih (b := b) (by simpa using h)
   simp [sameL, this]
set_option maxHeartbeats 2000000 in
set_option maxRecDepth 100000 in
theorem equalFunc_any (a b : List Tm) (h : ∀ x, x ∈ a → Sm x) (A : Option Addr) (c : Nat) (A' : Option Addr) (c' : Nat) (w : World) (hm : a.length ≤ 4611686018427387904) (hl : lies w A a) (hl' : lies w A' b) :
  Calls Try.prog 45 #[.slice A a.length c, .slice A' b.length c', .func (.func 24) #[] #[]] w fun e w' => e = .returned (.bool (sameL a b)) ∧ Below w.heap.size w w' := by
 have HH := Lib.hid h
 have HL := Lib.hid hl
 have HL' := Lib.hid hl'
 clear h hl hl'
 by_cases hab : a.length = b.length
 ·have hab' : ((a.length : Int) == (b.length : Int)) = true := beq_iff_eq.mpr (by omega)
  have habn : ((a.length : Int) != (b.length : Int)) = false := bne_eq_false_iff_eq.mpr (by omega)
  have HAB := Lib.hid hab
  have hle : a.length ≤ b.length := by omega
  clear hab
  go_enter Try.func45, Try.ntmps45
  go_wp2_with fail
  go_loopw [17] (fun i wr => ∃ k : Nat, k ≤ a.length ∧ i = .int .i64 k ∧ Hid (sameL a b = sameL (a.drop k) (b.drop k)) ∧ Hid (Below w.heap.size w wr)) (fun i _ => a.length - (intOf i).toNat)
  case atStart => exact ⟨0, Nat.zero_le _, rfl, Lib.hid (by simp), Lib.hid (Below.refl _ _)⟩
  case round =>
   obtain ⟨k, hk, rfl, hi, hB⟩ := hrel
   by_cases hlt : k < a.length
   ·have hltb : k < b.length := by omega
    obtain ⟨x, ad, A3, c3, hx, ea, h0, h1, h2, h3, hl, hg⟩ := elem_at (Kd.C_below HL.out hB.out) k hlt
    obtain ⟨y, ad', A3', c3', hy, ea', h0', h1', h2', h3', hl', hg'⟩ := elem_at (Kd.C_below HL'.out (yF hB.out (.cells #[.int .i64 x.f0, .string x.f1, .int .i64 x.f2, .slice A3 x.f3.length c3] 25))) k hltb
    have HX := Lib.hid hx
    have HY := Lib.hid hy
    have HG := Lib.hid hg
    have HG' := Lib.hid hg'
    have hd : a.drop k = x :: a.drop (k + 1) := by
     rw [List.drop_eq_getElem_cons hlt]; congr 1
     rw [List.getElem?_eq_getElem hlt] at hx; exact Option.some.inj hx
    have hd' : b.drop k = y :: b.drop (k + 1) := by
     rw [List.drop_eq_getElem_cons hltb]; congr 1
     rw [List.getElem?_eq_getElem hltb] at hy; exact Option.some.inj hy
    have HD := Lib.hid hd
    have HD' := Lib.hid hd'
    clear hx hy hg hg' hl hl' hd hd';subst ea
    subst ea'
    go_wp2_with fail
    refine (HH.out x (List.mem_of_getElem? HX.out) y A3 c3 A3' c3' _ (Kd.C_below HG.out (yF (yF (Below.refl _ _) _) _)) (Kd.C_below HG'.out (yF (Below.refl _ _) _))).mono ?_
    rintro e w' ⟨rfl, hB'⟩
    have HB' := Lib.hid (below_trans (yF (yF hB.out (.cells #[.int .i64 x.f0, .string x.f1, .int .i64 x.f2, .slice A3 x.f3.length c3] 25)) (.cells #[.int .i64 y.f0, .string y.f1, .int .i64 y.f2, .slice A3' y.f3.length c3'] 25)) hB')
    clear hB'
    cases hs : sameT x y with
    | true =>
     have HS := Lib.hid hs
     clear hs
     go_wp2_with fail
     go_roundw
     case rel => exact ⟨k + 1, by omega, by go_num, Lib.hid (by rw [hi.out, HD.out, HD'.out, sameL, HS.out]; rfl), HB'⟩
     case measure => simp [intOf]; omega
    | false =>
     have HS := Lib.hid hs
     clear hs
     go_wp2_with fail
     go_ret
     exact ⟨by rw [hi.out, HD.out, HD'.out, sameL, HS.out]; rfl, HB'.out⟩
   ·have he : k = a.length := by omega
    have HE := Lib.hid he
    clear he
    go_wp2_with fail
    go_ret
    exact ⟨by rw [hi.out, HE.out]; rw [List.drop_eq_nil_of_le (Nat.le_refl _), List.drop_eq_nil_of_le (by have := HAB.out; omega)]; rfl, hB.out⟩
 ·have hab' : ((a.length : Int) == (b.length : Int)) = false := beq_eq_false_iff_ne.mpr (by omega)
  have habn : ((a.length : Int) != (b.length : Int)) = true := bne_iff_ne.mpr (by omega)
  have HS := Lib.hid (sameL_len hab)
  clear hab
  go_enter Try.func45, Try.ntmps45
  go_wp2_with fail
  go_ret
  exact ⟨by rw [HS.out]; rfl, Below.refl _ _⟩
set_option maxHeartbeats 4000000 in
theorem same_step (x : Tm) (h : ∀ y, y ∈ x.f3 → Sm y) (hm : x.f3.length ≤ 4611686018427387904) : Sm x := by
 intro y A c A' c' w hl hl'
 obtain ⟨k, n, i, ts⟩ := x
 obtain ⟨k', n', i', ts'⟩ := y
 dsimp only at h hm hl hl' ⊢
 have HE : Hid (∀ w', Below w.heap.size w w' → ∀ b, Hid (sameL ts ts' = b) → Calls Try.prog 45 #[.slice A ts.length c, .slice A' ts'.length c', .func (.func 24) #[] #[]] w' fun e w'' => e = .returned (.bool b) ∧ Below w'.heap.size w' w'') :=
  Lib.hid (fun w' hb b h' => by rw [← h'.out]; exact equalFunc_any ts ts' h A c A' c' w' hm (Kd.C_below hl hb) (Kd.C_below hl' hb))
 have hB2 : Hid (Below w.heap.size w ((w.alloc (.cells #[.int .i64 k, .string n, .int .i64 i, .slice A ts.length c] 25)).alloc (.cells #[.int .i64 k', .string n', .int .i64 i', .slice A' ts'.length c'] 25))) :=
  Lib.hid (yF (yF (Below.refl _ _) _) _)
 have hx : sameT ⟨k, n, i, ts⟩ ⟨k', n', i', ts'⟩ = (decide (k = k') && (decide (i = i') && ((decide (n.toList = n'.toList) || (decide (k = 2) || decide (k = 3))) && sameL ts ts'))) := sameT_eq _ _
 clear hl hl' h
 by_cases e0 : k = k'
 ·subst e0
  by_cases e2 : i = i'
  ·subst e2
   by_cases e1 : n.toList = n'.toList
   ·have e1b : (n.toList == n'.toList) = true := beq_iff_eq.mpr e1
    have HX : Hid (sameT ⟨k, n, i, ts⟩ ⟨k, n', i, ts'⟩ = sameL ts ts') := Lib.hid (by rw [hx]; simp [e1])
    clear hx e1
    go_enter Try.func24, Try.ntmps24
    go_wp2_with (go_at_call 45; (with_reducible refine (HE.out _ ?side _ (Lib.hid rfl)).mono ?_); (case side => exact hB2.out); rintro e w' ⟨rfl, hB⟩)
    go_ret
    exact ⟨by rw [HX.out]; rfl, below_trans hB2.out hB⟩
   ·have e1b : (n.toList == n'.toList) = false := beq_eq_false_iff_ne.mpr e1
    by_cases k2 : k = 2
    ·subst k2
     have HX : Hid (sameT ⟨2, n, i, ts⟩ ⟨2, n', i, ts'⟩ = sameL ts ts') := Lib.hid (by rw [hx]; simp)
     clear hx e1
     go_enter Try.func24, Try.ntmps24
     go_wp2_with (go_at_call 45; (with_reducible refine (HE.out _ ?side _ (Lib.hid rfl)).mono ?_); (case side => exact hB2.out); rintro e w' ⟨rfl, hB⟩)
     go_ret
     exact ⟨by rw [HX.out]; rfl, below_trans hB2.out hB⟩
    ·have k2b : (k == 2) = false := beq_eq_false_iff_ne.mpr k2
     by_cases k3 : k = 3
     ·subst k3
      have HX : Hid (sameT ⟨3, n, i, ts⟩ ⟨3, n', i, ts'⟩ = sameL ts ts') := Lib.hid (by rw [hx]; simp)
      clear hx e1 k2 k2b
      go_enter Try.func24, Try.ntmps24
      go_wp2_with (go_at_call 45; (with_reducible refine (HE.out _ ?side _ (Lib.hid rfl)).mono ?_); (case side => exact hB2.out); rintro e w' ⟨rfl, hB⟩)
      go_ret
      exact ⟨by rw [HX.out]; rfl, below_trans hB2.out hB⟩
     ·have k3b : (k == 3) = false := beq_eq_false_iff_ne.mpr k3
      have k2n : (k != 2) = true := bne_iff_ne.mpr k2
      have k3n : (k != 3) = true := bne_iff_ne.mpr k3
      have HX : Hid (sameT ⟨k, n, i, ts⟩ ⟨k, n', i, ts'⟩ = false) := Lib.hid (by rw [hx]; simp [e1, k2, k3])
      clear hx e1 k2 k3 HE
      go_enter Try.func24, Try.ntmps24
      go_wp2_with fail
      go_ret
      exact ⟨by rw [HX.out]; rfl, hB2.out⟩
  ·have e2b : (i == i') = false := beq_eq_false_iff_ne.mpr e2
   have HX : Hid (sameT ⟨k, n, i, ts⟩ ⟨k, n', i', ts'⟩ = false) := Lib.hid (by rw [hx]; simp [e2])
   clear hx e2 HE
   go_enter Try.func24, Try.ntmps24
   go_wp2_with fail
   go_ret
   exact ⟨by rw [HX.out]; rfl, hB2.out⟩
 ·have e0b : (k == k') = false := beq_eq_false_iff_ne.mpr e0
  have HX : Hid (sameT ⟨k, n, i, ts⟩ ⟨k', n', i', ts'⟩ = false) := Lib.hid (by rw [hx]; simp [e0])
  clear hx e0 HE
  go_enter Try.func24, Try.ntmps24
  go_wp2_with fail
  go_ret
  exact ⟨by rw [HX.out]; rfl, hB2.out⟩
theorem same_any : ∀ (n : Nat) (x : Tm), SizeOf.sizeOf x < n → fitT x = true → Sm x := by
 intro n
 induction n with
 | zero => intro x h; omega
 | succ n ih =>
  intro x hn hf
  obtain ⟨hl, hf'⟩ := fitT_len hf
  exact same_step x (fun y hy => ih y (by have := sizeOf_arg hy; omega) (fitL_mem hf' y hy)) hl
def term_Same.f (a0_0 : Int) (a0_1 : ByteArray) (a0_2 : Int) (l0_3 : List Tm) (a1_0 : Int) (a1_1 : ByteArray) (a1_2 : Int) (l1_3 : List Tm) : Option Bool := if fitT ⟨a0_0, a0_1, a0_2, l0_3⟩ then some (sameT ⟨a0_0, a0_1, a0_2, l0_3⟩ ⟨a1_0, a1_1, a1_2, l1_3⟩) else none
theorem term_Same.calls (a0_0 : Int) (a0_1 : ByteArray) (a0_2 : Int) (A0_3 : Option Addr) (c0_3 : Nat) (l0_3 : List Tm) (a1_0 : Int) (a1_1 : ByteArray) (a1_2 : Int) (A1_3 : Option Addr) (c1_3 : Nat) (l1_3 : List Tm) (r : Bool) (w : World) (hr0_3 : lies w A0_3 l0_3) (hc0_3 : l0_3.length ≤ c0_3) (hr1_3 : lies w A1_3 l1_3) (hc1_3 : l1_3.length ≤ c1_3)
  (h : term_Same.f a0_0 a0_1 a0_2 l0_3 a1_0 a1_1 a1_2 l1_3 = some r) :
  Calls Try.prog 24 #[.agg #[.int .i64 a0_0, .string a0_1, .int .i64 a0_2, .slice A0_3 l0_3.length c0_3], .agg #[.int .i64 a1_0, .string a1_1, .int .i64 a1_2, .slice A1_3 l1_3.length c1_3]] w fun e w' => e = .returned (.bool r) ∧ Below w.heap.size w w' := by
 unfold term_Same.f at h
 split at h
 ·next hf => cases h; exact same_any _ _ (Nat.lt_succ_self _) hf ⟨a1_0, a1_1, a1_2, l1_3⟩ A0_3 c0_3 A1_3 c1_3 w hr0_3 hr1_3
 ·cases h
end Go.Proofs.Ytpkkoiljombooaa.G
