import Derived.Test.YtpkkoiljombooaaKG0
import Derived.Test.YtpkkoiljombooaaKG1
import Derived.Test.YtpkkoiljombooaaKG8
import Derived.Test.YtpkkoiljombooaaKPt
import Derived.Test.YtpkkoiljombooaaKAw
set_option linter.unusedVariables false
set_option linter.unusedSimpArgs false
namespace Go.Proofs.Ytpkkoiljombooaa.G
open Go.RowKit Go.Proofs.YtpkkoiljombooaaW.PrintWords Go.Proofs.YtpkkoiljombooaaW.PrintLast
theorem u64_mod (n : Int) : IntKind.u64.wrap n = n % 18446744073709551616 := by simp [IntKind.wrap, IntKind.bits, IntKind.signed]
theorem cut4 (x : Int) : ∃ r : Nat, fm_Cut.f x 4 = some (r : Int) ∧ r < 4 := by
 unfold fm_Cut.f
 rw [u64_mod, u64_mod]
 have e : Int.tmod (x % 18446744073709551616) (4 % 18446744073709551616) = (x % 18446744073709551616) % 4 := by
  rw [Int.tmod_eq_emod_of_nonneg (Int.emod_nonneg _ (by omega))]; rfl
 rw [if_neg (by omega), e, w64_in (by omega) (by omega)]
 exact ⟨((x % 18446744073709551616) % 4).toNat, by congr 1; omega, by omega⟩
def lamN : Nat → Tm
 | 0 => ⟨4, ⟨#[122]⟩, 0, []⟩
 | k + 1 => ⟨3, ⟨#[]⟩, 0, [lamN k]⟩
theorem lamN_nT (k : Nat) : nT (lamN k) = k + 1 := by
 induction k with
 | zero => simp [lamN, nT, nTs]
 | succ k ih => simp [lamN, nT, nTs, ih]
theorem lamN_dT (k : Nat) : dT (lamN k) = k + 1 := by
 induction k with
 | zero => simp [lamN, dT, dTs]
 | succ k ih => simp [lamN, dT, dTs, ih]
theorem lamN_obj (k : Nat) : objB (lamN k) = true := by
 induction k with
 | zero =>
  simp only [lamN, objB, Int.reduceEq, ↓reduceIte, objsB]
  kernel_rfl
 | succ k ih =>
  simp only [lamN, objB, if_true, objsB, Bool.and_true, Bool.and_eq_true]
  exact ⟨by kernel_rfl, ih⟩
def argN (i : Nat) : Tm := ⟨5, ⟨#[]⟩, Int.tmod ((i : Int) + 1) 3, []⟩
def argsN (k : Nat) : List Tm := (List.range k).map argN
theorem argsN_succ (k : Nat) : argsN (k + 1) = argsN k ++ [argN k] := by simp [argsN, List.range_succ]
theorem argsN_len (k : Nat) : (argsN k).length = k := by simp [argsN]
theorem arg_nT (i : Nat) : nT (argN i) = 1 := by simp [argN, nT, nTs]
theorem arg_dT (i : Nat) : dT (argN i) = 1 := by simp [argN, dT, dTs]
theorem arg_obj (i : Nat) : objB (argN i) = true := by
 have h0 : 0 ≤ Int.tmod ((i : Int) + 1) 3 := Int.tmod_nonneg _ (by omega)
 have h1 : Int.tmod ((i : Int) + 1) 3 < 3 := Int.tmod_lt_of_pos _ (by omega)
 simp only [argN, objB, Int.reduceEq, ↓reduceIte, objsB, Bool.and_true, Bool.and_eq_true, decide_eq_true_eq]
 exact ⟨by kernel_rfl, h0, by omega⟩
theorem nTs_all1 (l : List Tm) (h : ∀ a ∈ l, nT a = 1) : nTs l = l.length := by
 induction l with
 | nil => simp [nTs]
 | cons a l ih =>
  simp only [nTs, List.length_cons, h a (by simp), ih (fun b hb => h b (by simp [hb]))]
  omega
theorem dTs_all1 (l : List Tm) (h : ∀ a ∈ l, dT a = 1) : dTs l ≤ 1 := by
 induction l with
 | nil => simp [dTs]
 | cons a l ih =>
  simp only [dTs, h a (by simp)]
  have := ih (fun b hb => h b (by simp [hb]))
  omega
def wideN (k : Nat) : Tm := ⟨4, ⟨#[102]⟩, 0, argsN k⟩
theorem argsN_mem {k : Nat} {a : Tm} (h : a ∈ argsN k) : ∃ i, a = argN i := by
 obtain ⟨i, _, rfl⟩ := List.mem_map.1 h
 exact ⟨i, rfl⟩
theorem wide_nT (k : Nat) : nT (wideN k) = k + 1 := by
 simp only [wideN, nT]
 rw [nTs_all1 _ (fun a ha => by obtain ⟨i, rfl⟩ := argsN_mem ha; exact arg_nT i), argsN_len]
theorem wide_dT (k : Nat) : dT (wideN k) ≤ 2 := by
 simp only [wideN, dT]
 have := dTs_all1 (argsN k) (fun a ha => by obtain ⟨i, rfl⟩ := argsN_mem ha; exact arg_dT i)
 omega
theorem wide_atom (k : Nat) : atomB (wideN k) = true := by
 unfold atomB
 have h : objsB (argsN k) = true := by
  rw [objsB_all]
  exact List.all_eq_true.2 (fun a ha => by obtain ⟨i, rfl⟩ := argsN_mem ha; exact arg_obj i)
 have hn : isNameB ⟨#[102]⟩ = true := by kernel_rfl
 simp [wideN, h, hn]
theorem wide_typ (k : Nat) : typB (wideN k) = true := by
 by_cases h2 : (wideN k).f3.length = 2
 ·obtain ⟨a, b, e⟩ := two_of h2
  have h := wide_atom k
  generalize wideN k = x at *
  cases x with
  | mk k' n i ts => simp only at e; subst e; rw [typB_two, h]; rfl
 ·rw [typB_other _ h2, wide_atom]
theorem lim_j2 (n : Nat) (hn : n < 4) : Ev (fun q => f5_TermLimits.j2 q (n : Int) (if (n : Int) > 1 then 2 else 0) (lamN (126 + n)).f0 (lamN (126 + n)).f1 (lamN (126 + n)).f2 (lamN (126 + n)).f3 (wideN (4094 + n)).f0 (wideN (4094 + n)).f1 (wideN (4094 + n)).f2 (wideN (4094 + n)).f3) true := by
 have ot : okN (lamN (126 + n)) := by unfold okN; rw [lamN_nT]; omega
 have ow : okN (wideN (4094 + n)) := by unfold okN; rw [wide_nT]; omega
 have e1 : wrap64 (wrap64 (128 + (n : Int)) - 1) = 127 + n := by rw [w64_in (n := 128 + (n : Int)) (by omega) (by omega), w64_in (by omega) (by omega)]; omega
 have e2 : wrap64 (wrap64 (4096 + (n : Int)) - 1) = 4095 + n := by rw [w64_in (n := 4096 + (n : Int)) (by omega) (by omega), w64_in (by omega) (by omega)]; omega
 have st : smallB (lamN (126 + n)) = decide (n < 2) := by
  unfold smallB
  rw [lamN_nT, lamN_dT, Bool.eq_iff_iff]
  simp; omega
 have sw : smallB (wideN (4094 + n)) = decide (n < 2) := by
  unfold smallB
  have := wide_dT (4094 + n)
  rw [wide_nT, Bool.eq_iff_iff]
  simp; omega
 have wt : wfE (lamN (126 + n)) = if (n : Int) > 1 then 2 else 0 := by
  unfold wfE sortB
  rw [lamN_obj, st]
  by_cases h : n < 2
  ·rw [decide_eq_true h, if_neg (show ¬ ((n : Int) > 1) by omega)]; rfl
  ·rw [decide_eq_false h, if_pos (show (n : Int) > 1 by omega)]; rfl
 have ww : wfE (wideN (4094 + n)) = if (n : Int) > 1 then 2 else 0 := by
  unfold wfE sortB
  rw [wide_typ, sw]
  by_cases h : n < 2
  ·rw [decide_eq_true h, if_neg (show ¬ ((n : Int) > 1) by omega)]; simp
  ·rw [decide_eq_false h, if_pos (show (n : Int) > 1 by omega)]; simp
 have ed : decide ((n : Int) < 2) = decide (n < 2) := by rw [Bool.eq_iff_iff]; simp; omega
 refine Ev.up ?_
 simp only [f5_TermLimits.j2, e1, e2]
 refine Ev.bind (depth_ev _ _ (Nat.le_refl _) ot) ?_
 refine Ev.pos (by rw [lamN_dT]; omega) ?_
 refine Ev.bind (wf_ev ot) ?_
 refine Ev.pos wt ?_
 refine Ev.bind (isObject_ev ot) ?_
 rw [lamN_obj, st, ed]
 refine Ev.pos (by simp) ?_
 simp only [size_some ow, Option.bind_some]
 refine Ev.pos (by rw [wide_nT]; omega) ?_
 refine Ev.bind (wf_ev ow) ?_
 refine Ev.pos ww ?_
 refine Ev.bind (isType_ev ow) ?_
 rw [wide_typ, sw]
 refine Ev.pos (by simp) ?_
 exact Ev.now _
theorem lim_l1 (n : Nat) (hn : n < 4) : ∀ (c j : Nat), j + c = 4094 + n → Ev (fun q => f5_TermLimits.l1 q (n : Int) ((j : Int) + 1) (lamN (126 + n)).f0 (lamN (126 + n)).f1 (lamN (126 + n)).f2 (lamN (126 + n)).f3 4 ⟨#[102]⟩ 0 (argsN j)) true := by
 have e2 : wrap64 (wrap64 (4096 + (n : Int)) - 1) = 4095 + n := by rw [w64_in (n := 4096 + (n : Int)) (by omega) (by omega), w64_in (by omega) (by omega)]; omega
 intro c
 induction c with
 | zero =>
  intro j hj
  obtain rfl : j = 4094 + n := by omega
  have h := lim_j2 n hn
  refine Ev.up ?_
  simp only [f5_TermLimits.l1, e2]
  refine Ev.neg (by omega) ?_
  by_cases h1 : (n : Int) > 1
  ·rw [if_pos h1] at h
   exact Ev.pos h1 h
  ·rw [if_neg h1] at h
   exact Ev.neg h1 h
 | succ c ih =>
  intro j hj
  refine Ev.up ?_
  simp only [f5_TermLimits.l1, e2]
  refine Ev.pos (by omega) ?_
  refine Ev.pos (by rw [argsN_len]; omega) ?_
  have e3 : wrap64 ((j : Int) + 1 + 1) = ((j + 1 : Nat) : Int) + 1 := by rw [w64_in (by omega) (by omega)]; omega
  rw [e3]
  have := ih (j + 1) (by omega)
  rw [argsN_succ] at this
  exact this
theorem lim_l0 (n : Nat) (hn : n < 4) : ∀ (c j : Nat), j + c = 126 + n → Ev (fun q => f5_TermLimits.l0 q (n : Int) ((j : Int) + 1) (lamN j).f0 (lamN j).f1 (lamN j).f2 (lamN j).f3) true := by
 have e1 : wrap64 (wrap64 (128 + (n : Int)) - 1) = 127 + n := by rw [w64_in (n := 128 + (n : Int)) (by omega) (by omega), w64_in (by omega) (by omega)]; omega
 intro c
 induction c with
 | zero =>
  intro j hj
  obtain rfl : j = 126 + n := by omega
  have h := lim_l1 n hn (4094 + n) 0 (by omega)
  refine Ev.up ?_
  simp only [f5_TermLimits.l0, e1]
  refine Ev.neg (by omega) ?_
  exact h
 | succ c ih =>
  intro j hj
  refine Ev.up ?_
  simp only [f5_TermLimits.l0, e1, tm_eta]
  refine Ev.pos (by omega) ?_
  have e3 : wrap64 ((j : Int) + 1 + 1) = ((j + 1 : Nat) : Int) + 1 := by rw [w64_in (by omega) (by omega)]; omega
  rw [e3]
  exact ih (j + 1) (by omega)
theorem TermLimits : f5_TermLimits.Pure := by
 intro a _
 obtain ⟨n, hc, hn⟩ := cut4 a
 refine Ev.rounds (g := fun k => f5_TermLimits.f k a) ?_
 simp only [f5_TermLimits.f, hc, Option.bind_some]
 exact lim_l0 n hn (126 + n) 0 (by omega)
end Go.Proofs.Ytpkkoiljombooaa.G
