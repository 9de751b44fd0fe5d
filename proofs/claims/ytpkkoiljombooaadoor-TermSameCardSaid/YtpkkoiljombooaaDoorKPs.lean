import Derived.Test.YtpkkoiljombooaaDoorKG0
import Derived.Test.YtpkkoiljombooaaDoorKG2
import Derived.Test.YtpkkoiljombooaaDoorKTl
import Derived.Test.YtpkkoiljombooaaDoorKPm
import Derived.Test.YtpkkoiljombooaaDoorKPt
set_option linter.unusedVariables false
set_option linter.unusedSimpArgs false
namespace Go.Proofs.YtpkkoiljombooaaDoor.G
open Go.RowKit Go.Proofs.YtpkkoiljombooaaDoorW.PrintWords Go.Proofs.YtpkkoiljombooaaDoorW.PrintLast
abbrev TQ (t : Tm) : Int × ByteArray × Int × List Tm := (t.f0, t.f1, t.f2, t.f3)
theorem nTs_append (a b : List Tm) : nTs (a ++ b) = nTs a + nTs b := by
 induction a with
 | nil => simp [nTs]
 | cons x a ih => simp only [List.cons_append, nTs, ih]; omega
theorem nTs_take (m : Nat) (a : List Tm) : nTs (a.take m) ≤ nTs a := by
 have := nTs_append (a.take m) (a.drop m)
 rw [List.take_append_drop] at this
 omega
theorem nTs_set : ∀ (a : List Tm) (j : Nat) (x : Tm) (hj : j < a.length), nTs (a.set j x) + nT a[j] = nTs a + nT x := by
 intro a
 induction a with
 | nil => intro j x hj; simp at hj
 | cons y a ih =>
  intro j x hj
  cases j with
  | zero => simp only [List.set_cons_zero, List.getElem_cons_zero, nTs]; omega
  | succ j =>
   simp only [List.set_cons_succ, List.getElem_cons_succ, nTs]
   have := ih j x (by simpa using hj)
   omega
theorem spoil_top (t : Tm) (n y : Int) (ho : okN t) : ∃ t', Ev (fun k => fm_Spoil.j0 k n y false t.f0 t.f1 t.f2 t.f3) (TQ t') ∧ nT t' ≤ nT t + 1 := by
 have hlen := nTs_len t.f3
 have hn := nT_eq t
 have hok : nT t ≤ 1000000 := ho
 obtain ⟨x, hx, hx0, hx1⟩ := cut_some y 9 (by omega) (by omega)
 have fin : ∀ (t' : Tm), nT t' ≤ nT t + 1 → Ev (fun _ => some (TQ t')) (TQ t') ∧ nT t' ≤ nT t + 1 := fun t' h => ⟨Ev.now _, h⟩
 have go : ∀ t', (∀ k, fm_Spoil.j0 (k + 1) n y false t.f0 t.f1 t.f2 t.f3 = some (TQ t')) → nT t' ≤ nT t + 1 → ∃ t', Ev (fun k => fm_Spoil.j0 k n y false t.f0 t.f1 t.f2 t.f3) (TQ t') ∧ nT t' ≤ nT t + 1 :=
  fun t' h h2 => ⟨t', Ev.step (f := fun _ => some (TQ t')) h (Ev.now _), h2⟩
 obtain rfl | rfl | rfl | rfl | rfl | rfl | rfl | rfl | rfl : x = 0 ∨ x = 1 ∨ x = 2 ∨ x = 3 ∨ x = 4 ∨ x = 5 ∨ x = 6 ∨ x = 7 ∨ x = 8 := by omega
 ·obtain ⟨q, hq, _, _⟩ := cut_some (wrap64 (Int.tdiv y 9)) 8 (by omega) (by omega)
  exact go ⟨q, t.f1, t.f2, t.f3⟩ (fun k => by simp only [fm_Spoil.j0, Bool.false_eq_true, ↓reduceIte, hx, hq, Option.bind_some]) (by rw [hn]; simp only [nT]; omega)
 ·obtain ⟨q, hq, q0, q1⟩ := cut_some (wrap64 (Int.tdiv y 9)) 6 (by omega) (by omega)
  exact go ⟨t.f0, t.f1, rd [(-1), 1, 1048576, 1048577, 2048, 0] q, t.f3⟩ (fun k => by
   simp only [fm_Spoil.j0, Bool.false_eq_true, ↓reduceIte, Int.reduceEq, hx, hq, Option.bind_some, List.length_cons, List.length_nil, Nat.reduceAdd, Int.cast_ofNat_Int]
   rw [if_pos q0, if_pos q1]) (by rw [hn]; simp only [nT]; omega)
 ·obtain ⟨q, hq, q0, q1⟩ := cut_some (wrap64 (Int.tdiv y 9)) 7 (by omega) (by omega)
  exact go ⟨t.f0, rdOf ByteArray.empty [⟨#[]⟩, ⟨#[95]⟩, ⟨#[122]⟩, ⟨#[116, 121, 112, 101]⟩, ⟨#[64, 99]⟩, ⟨#[97, 32, 98]⟩, ⟨#[45, 62]⟩] q, t.f2, t.f3⟩ (fun k => by
   simp only [fm_Spoil.j0, Bool.false_eq_true, ↓reduceIte, Int.reduceEq, hx, hq, Option.bind_some, List.length_cons, List.length_nil, Nat.reduceAdd, Int.cast_ofNat_Int]
   rw [if_pos q0, if_pos q1]) (by rw [hn]; simp only [nT]; omega)
 ·exact go ⟨t.f0, t.f1, t.f2, t.f3 ++ [⟨4, ⟨#[122]⟩, 0, []⟩]⟩ (fun k => by
   simp only [fm_Spoil.j0, Bool.false_eq_true, ↓reduceIte, Int.reduceEq, hx, Option.bind_some]
   rw [if_pos (by omega)]) (by rw [hn]; simp only [nT, nTs_append, nTs]; omega)
 ·by_cases hl : (t.f3.length : Int) > 0
  ·have e : wrap64 ((t.f3.length : Int) - 1) = (t.f3.length : Int) - 1 := w64_in (by omega) (by omega)
   exact go ⟨t.f0, t.f1, t.f2, t.f3.take ((t.f3.length : Int) - 1).toNat⟩ (fun k => by
    simp only [fm_Spoil.j0, Bool.false_eq_true, ↓reduceIte, Int.reduceEq, hx, Option.bind_some, e]
    rw [if_pos hl, if_pos (by omega), if_pos (by omega)]) (by rw [hn]; simp only [nT]; have := nTs_take ((t.f3.length : Int) - 1).toNat t.f3; omega)
  ·exact go t (fun k => by
    simp only [fm_Spoil.j0, Bool.false_eq_true, ↓reduceIte, Int.reduceEq, hx, Option.bind_some]
    rw [if_neg hl]) (by omega)
 ·exact go ⟨3, ⟨#[]⟩, 0, [t]⟩ (fun k => by
   simp only [fm_Spoil.j0, Bool.false_eq_true, ↓reduceIte, Int.reduceEq, hx, Option.bind_some, tm_eta]) (by simp only [nT, nTs]; omega)
 ·exact go ⟨1, ⟨#[]⟩, 0, []⟩ (fun k => by
   simp only [fm_Spoil.j0, Bool.false_eq_true, ↓reduceIte, Int.reduceEq, hx, Option.bind_some]) (by simp only [nT, nTs]; omega)
 ·obtain ⟨q, hq, _, _⟩ := cut_some (wrap64 (Int.tdiv y 9)) 3 (by omega) (by omega)
  exact go ⟨t.f0, t.f1, wrap64 (t.f2 + wrap64 (1 + q)), t.f3⟩ (fun k => by
   simp only [fm_Spoil.j0, Bool.false_eq_true, ↓reduceIte, Int.reduceEq, hx, hq, Option.bind_some]) (by rw [hn]; simp only [nT]; omega)
 ·obtain ⟨q, hq, q0, q1⟩ := cut_some (wrap64 (Int.tdiv y 9)) 3 (by omega) (by omega)
  exact go ⟨4, rdOf ByteArray.empty [⟨#[122]⟩, ⟨#[110, 97, 116]⟩, ⟨#[110, 111, 98, 111, 100, 121]⟩] q, 0, []⟩ (fun k => by
   simp only [fm_Spoil.j0, Bool.false_eq_true, ↓reduceIte, Int.reduceEq, hx, hq, Option.bind_some, List.length_cons, List.length_nil, Nat.reduceAdd, Int.cast_ofNat_Int]
   rw [if_pos q0, if_pos q1]) (by simp only [nT, nTs]; omega)
theorem spoil_some : ∀ (N : Nat) (t : Tm) (n y : Int), nT t ≤ N → okN t → ∃ t', Ev (fun k => fm_Spoil.f k t.f0 t.f1 t.f2 t.f3 n y) (TQ t') ∧ nT t' ≤ nT t + 1 := by
 intro N
 induction N with
 | zero => intro t n y h; have := nT_pos t; omega
 | succ N ih =>
  intro t n y h ho
  have hlen := nTs_len t.f3
  have hn := nT_eq t
  have hok : nT t ≤ 1000000 := ho
  have up : ∀ {b : Bool} {t' : Tm}, Ev (fun k => fm_Spoil.j0 k n y b t.f0 t.f1 t.f2 t.f3) (TQ t') → (∀ k, fm_Spoil.f (k + 1) t.f0 t.f1 t.f2 t.f3 n y = fm_Spoil.j0 k n y b t.f0 t.f1 t.f2 t.f3) → Ev (fun k => fm_Spoil.f k t.f0 t.f1 t.f2 t.f3 n y) (TQ t') :=
   fun h1 h2 => Ev.step h2 h1
  by_cases hl : (t.f3.length : Int) > 0
  ·obtain ⟨x, hx, hx0, hx1⟩ := cut_some n 3 (by omega) (by omega)
   by_cases hx2 : x > 0
   ·obtain ⟨q, hq, q0, q1⟩ := cut_some (wrap64 (Int.tdiv n 3)) (t.f3.length : Int) (by omega) (by omega)
    have hql : q.toNat < t.f3.length := by omega
    have hmem : t.f3[q.toNat] ∈ t.f3 := List.getElem_mem _
    obtain ⟨a', he, ha⟩ := ih t.f3[q.toNat] (wrap64 (Int.tdiv n 9)) y (by have := nTs_mem hmem; omega) (okN_arg ho hmem)
    refine ⟨⟨t.f0, t.f1, t.f2, t.f3.set q.toNat a'⟩, up (b := true) ?_ (fun k => ?_), ?_⟩
    ·refine Ev.up ?_
     simp only [fm_Spoil.j0, ↓reduceIte, hq, Option.bind_some]
     refine Ev.pos q0 (Ev.pos q1 ?_)
     have e : rd_T25 t.f3 q = t.f3[q.toNat] := by rw [← rd_at t.f3 q.toNat hql, show ((q.toNat : Nat) : Int) = q by omega]
     simp only [e]
     refine Ev.bind he ?_
     refine Ev.congr (fun k => ?_) (Ev.now _)
     simp only [tm_eta]
    ·simp only [fm_Spoil.f, List.length_nil, Nat.zero_add, List.nil_append, Option.bind_some]
     rw [if_pos (by omega), if_pos hl, hx]
     simp only [Option.bind_some, decide_eq_true hx2]
    ·have := nTs_set t.f3 q.toNat a' hql
     rw [hn]; simp only [nT]; omega
   ·obtain ⟨t', he, ht⟩ := spoil_top t n y ho
    refine ⟨t', up (b := false) he (fun k => ?_), ht⟩
    simp only [fm_Spoil.f, List.length_nil, Nat.zero_add, List.nil_append, Option.bind_some]
    rw [if_pos (by omega), if_pos hl, hx]
    simp only [Option.bind_some, decide_eq_false hx2]
  ·obtain ⟨t', he, ht⟩ := spoil_top t n y ho
   refine ⟨t', up (b := false) he (fun k => ?_), ht⟩
   simp only [fm_Spoil.f, List.length_nil, Nat.zero_add, List.nil_append, Option.bind_some]
   rw [if_pos (by omega), if_neg hl]
theorem mt_size {d v m : Int} {t : Tm} (h : MT d v m t) : ∀ D : Nat, d ≤ D → nT t + 1 ≤ 2 ^ (D + 1) := by
 induction h with
 | @lam d v m n a hd hn ha ih =>
  intro D hD
  obtain ⟨E, rfl⟩ : ∃ E, D = E + 1 := ⟨D - 1, by omega⟩
  have := ih E (by omega)
  simp only [nT, nTs, Nat.add_zero]
  rw [Nat.pow_succ]
  omega
 | @app d v m k n i ts hk hl h0 ht ih =>
  intro D hD
  by_cases hts : ts = []
  ·subst hts
   simp only [nT, nTs]
   have : 2 ^ 1 ≤ 2 ^ (D + 1) := Nat.pow_le_pow_right (by omega) (by omega)
   omega
  ·have hd := h0 hts
   obtain ⟨E, rfl⟩ : ∃ E, D = E + 1 := ⟨D - 1, by omega⟩
   have hb : ∀ a ∈ ts, nT a ≤ 2 ^ (E + 1) - 1 := fun a ha => by have := ih a ha E (by omega); omega
   have h1 := nTs_le hb
   have hp : 1 ≤ 2 ^ (E + 1) := Nat.one_le_two_pow
   have h2 : ts.length * (2 ^ (E + 1) - 1) ≤ 2 * (2 ^ (E + 1) - 1) := Nat.mul_le_mul_right _ hl
   simp only [nT]
   rw [Nat.pow_succ 2 (E + 1)]
   omega
theorem my_size {d v m : Int} {t : Tm} (h : MY d v m t) : ∀ D : Nat, d ≤ D → nT t + 1 ≤ 2 ^ (D + 1) := by
 induction h with
 | @pi d v m n a b hd hn ha hb iha ihb =>
  intro D hD
  obtain ⟨E, rfl⟩ : ∃ E, D = E + 1 := ⟨D - 1, by omega⟩
  have h1 := iha E (by omega)
  have h2 := ihb E (by omega)
  simp only [nT, nTs, Nat.add_zero]
  rw [Nat.pow_succ]
  omega
 | @con d v m n ts hn hl h0 ht =>
  intro D hD
  by_cases hts : ts = []
  ·subst hts
   simp only [nT, nTs]
   have : 2 ^ 1 ≤ 2 ^ (D + 1) := Nat.pow_le_pow_right (by omega) (by omega)
   omega
  ·have hd := h0 hts
   obtain ⟨E, rfl⟩ : ∃ E, D = E + 1 := ⟨D - 1, by omega⟩
   have hb : ∀ a ∈ ts, nT a ≤ 2 ^ (E + 1) - 1 := fun a ha => by have := mt_size (ht a ha) E (by omega); omega
   have h1 := nTs_le hb
   have hp : 1 ≤ 2 ^ (E + 1) := Nat.one_le_two_pow
   have h2 : ts.length * (2 ^ (E + 1) - 1) ≤ 2 * (2 ^ (E + 1) - 1) := Nat.mul_le_mul_right _ hl
   simp only [nT]
   rw [Nat.pow_succ 2 (E + 1)]
   omega
theorem mk_size {d : Int} {c : Nat} {t : Tm} (h : MK d c t) (D : Nat) (hD : d ≤ D + 1) : nT t ≤ 1 + c * 2 ^ (D + 1) := by
 induction h with
 | sort => simp only [nT, nTs]; omega
 | @pi c a b ha hb ih =>
  have h1 := my_size ha D (by omega)
  simp only [nT, nTs, Nat.add_zero, Nat.succ_mul]
  omega
theorem ma_size {v m : Int} {t : Tm} (h : MA 4 v m t) : nT t ≤ 33 := by
 rcases h with h | h | h
 ·have := my_size h 4 (by omega); simp at this; omega
 ·have := mk_size h 3 (by omega); simp at this; omega
 ·have := mt_size h 4 (by omega); simp at this; omega
theorem made_loop (xs : List Int) (hl : xs.length ≤ 4611686018427387904) : ∀ (c : Nat) (j : Int) (t : Tm), 0 ≤ j → j + 2 * c = 6 → nT t + c ≤ 1000 →
  ∃ t', Ev (fun k => f5_made.l0 k xs j t.f0 t.f1 t.f2 t.f3) (TQ t') ∧ nT t' ≤ nT t + c := by
 intro c
 induction c with
 | zero =>
  intro j t h0 h1 ht
  refine ⟨t, Ev.step (f := fun _ => some (TQ t)) (fun k => ?_) (Ev.now _), by omega⟩
  simp only [f5_made.l0]
  rw [if_neg (show ¬ (j < 6) by omega)]
  split <;> rfl
 | succ c ih =>
  intro j t h0 h1 ht
  have e1 : wrap64 (j + 1) = j + 1 := w64_in (by omega) (by omega)
  have e2 : wrap64 (j + 2) = j + 2 := w64_in (by omega) (by omega)
  by_cases hj : j + 1 < (xs.length : Int)
  ·obtain ⟨a, he, ha⟩ := spoil_some _ t (rd xs j) (rd xs (j + 1)) (Nat.le_refl _) (by unfold okN; omega)
   obtain ⟨t', he', ht'⟩ := ih (j + 2) a (by omega) (by omega) (by omega)
   refine ⟨t', Ev.step (f := fun k => (fm_Spoil.f k t.f0 t.f1 t.f2 t.f3 (rd xs j) (rd xs (j + 1))).bind fun r => f5_made.l0 k xs (j + 2) r.1 r.2.1 r.2.2.1 r.2.2.2) (fun k => ?_) (Ev.bind he he'), by omega⟩
   simp only [f5_made.l0, e1, e2]
   rw [if_pos hj, if_pos (by omega), if_pos h0, if_pos (by omega), if_pos (by omega)]
  ·refine ⟨t, Ev.step (f := fun _ => some (TQ t)) (fun k => ?_) (Ev.now _), by omega⟩
   simp only [f5_made.l0, e1]
   rw [if_neg hj]
theorem made_some (l m : List Int) (hl : l.length ≤ 4611686018427387904) (hm : m.length ≤ 4611686018427387904) : ∃ t, Ev (fun k => f5_made.f k l m) (TQ t) ∧ nT t ≤ 36 := by
 obtain ⟨a, j, he, ha, _, _⟩ := any_some l hl 4 3 2 (by omega) (by omega) (by omega) (by omega) (by omega) (by omega) 0 (by omega) (by omega)
 have hs := ma_size ha
 obtain ⟨t, he', ht⟩ := made_loop m hm 3 0 a (by omega) (by omega) (by omega)
 refine ⟨t, ?_, by omega⟩
 simp only [f5_made.f, fm_AnyL.f]
 refine Ev.bind (a := TQ a) (Ev.bind he (Ev.now _)) he'
end Go.Proofs.YtpkkoiljombooaaDoor.G
