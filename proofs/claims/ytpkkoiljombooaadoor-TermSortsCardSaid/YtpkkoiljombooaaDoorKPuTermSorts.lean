import Derived.Test.YtpkkoiljombooaaDoorKG0
import Derived.Test.YtpkkoiljombooaaDoorKG14
import Derived.Test.YtpkkoiljombooaaDoorKPs
import Derived.Test.YtpkkoiljombooaaDoorKAw
set_option linter.unusedVariables false
set_option linter.unusedSimpArgs false
namespace Go.Proofs.YtpkkoiljombooaaDoor.G
open Go.RowKit Go.Proofs.YtpkkoiljombooaaDoorW.PrintWords Go.Proofs.YtpkkoiljombooaaDoorW.PrintLast
theorem small_arg {t a : Tm} (h : smallB t = true) (ha : a ∈ t.f3) : smallB a = true := by
 unfold smallB at *
 simp only [Bool.and_eq_true, decide_eq_true_eq] at *
 have h1 := nTs_mem ha
 have h2 := dTs_mem ha
 rw [nT_eq t] at h
 rw [dT_eq t] at h
 omega
theorem objB_kind {t : Tm} (h : objB t = true) : t.f0 = 3 ∨ t.f0 = 4 ∨ t.f0 = 5 ∨ t.f0 = 6 := by
 cases t with
 | mk k n i ts =>
  show k = 3 ∨ k = 4 ∨ k = 5 ∨ k = 6
  simp only [objB] at h
  split at h
  ·omega
  ·split at h
   ·omega
   ·split at h
    ·omega
    ·split at h
     ·omega
     ·cases h
theorem atomB_kind {t : Tm} (h : atomB t = true) : t.f0 = 4 := by
 unfold atomB at h
 simp only [Bool.and_eq_true, decide_eq_true_eq] at h
 exact h.1
theorem typB_kind {t : Tm} (h : typB t = true) : t.f0 = 4 ∧ atomB t = true ∨ t.f0 = 2 ∧ boundB t 2 = true := by
 by_cases ha : atomB t = true
 ·exact .inl ⟨atomB_kind ha, ha⟩
 ·by_cases h2 : t.f3.length = 2
  ·obtain ⟨a, b, e⟩ := two_of h2
   cases t with
   | mk k n i ts =>
    simp only at e
    subst e
    rw [typB_two] at h
    simp only [Bool.or_eq_true, Bool.and_eq_true, decide_eq_true_eq] at h
    rcases h with h | h
    ·exact absurd h ha
    ·exact .inr ⟨h.1, h.2.1⟩
  ·rw [typB_other t h2] at h; exact absurd h ha
theorem kindB_kind {t : Tm} (h : kindB t = true) : t.f0 = 1 ∧ t.f3 = [] ∨ t.f0 = 2 ∧ boundB t 2 = true := by
 by_cases h2 : t.f3.length = 2
 ·obtain ⟨a, b, e⟩ := two_of h2
  cases t with
  | mk k n i ts =>
   simp only at e
   subst e
   rw [kindB_two] at h
   simp only [Bool.and_eq_true, decide_eq_true_eq] at h
   exact .inr ⟨h.1, h.2.1⟩
 ·rw [kindB_other t h2] at h
  simp only [Bool.and_eq_true, decide_eq_true_eq] at h
  exact .inl ⟨h.1, List.eq_nil_of_length_eq_zero h.2.2.2⟩
theorem pi_parts {t : Tm} (h0 : t.f0 = 2) (h : typB t = true ∨ kindB t = true) : ∃ a b, t.f3 = [a, b] ∧ typB a = true ∧ typB b = typB t ∧ kindB b = kindB t := by
 have hb : boundB t 2 = true := by
  rcases h with h | h
  ·rcases typB_kind h with ⟨h1, _⟩ | ⟨_, h1⟩
   ·omega
   ·exact h1
  ·rcases kindB_kind h with ⟨h1, _⟩ | ⟨_, h1⟩
   ·omega
   ·exact h1
 obtain ⟨a, b, e⟩ := two_of (by have := boundB_len hb; omega : t.f3.length = 2)
 have hat : atomB t = false := by
  cases ha : atomB t with
  | false => rfl
  | true => have := atomB_kind ha; omega
 cases t with
 | mk k n i ts =>
  simp only at e h0
  subst e
  rw [typB_two, kindB_two, hb, hat, decide_eq_true h0] at h
  rw [typB_two, kindB_two, hb, hat, decide_eq_true h0]
  simp only [Bool.true_and, Bool.false_or, Bool.and_eq_true] at h ⊢
  have ht : typB a = true := by rcases h with h | h <;> exact h.1
  exact ⟨a, b, rfl, ht, by rw [ht]; rfl, by rw [ht]; rfl⟩
theorem kind_not : ∀ (N : Nat) (t : Tm), nT t ≤ N → kindB t = true → typB t = false := by
 intro N
 induction N with
 | zero => intro t h; have := nT_pos t; omega
 | succ N ih =>
  intro t h hk
  cases ht : typB t with
  | false => rfl
  | true =>
   exfalso
   rcases kindB_kind hk with ⟨h1, _⟩ | ⟨h1, _⟩
   ·rcases typB_kind ht with ⟨h2, _⟩ | ⟨h2, _⟩ <;> omega
   ·obtain ⟨a, b, e, _, h3, h4⟩ := pi_parts h1 (.inl ht)
    have hm := nTs_mem (show b ∈ t.f3 by rw [e]; simp)
    rw [nT_eq] at h
    have := ih b (by omega) (by rw [h4, hk])
    rw [h3, ht] at this
    cases this
theorem kind_not_obj {t : Tm} (hk : kindB t = true) : objB t = false := by
 cases ho : objB t with
 | false => rfl
 | true =>
  have := objB_kind ho
  rcases kindB_kind hk with ⟨h1, _⟩ | ⟨h1, _⟩ <;> omega
theorem obj_lam {t : Tm} (h0 : t.f0 = 3) (h : objB t = true) : ∃ a, t.f3 = [a] ∧ objB a = true := by
 cases t with
 | mk k n i ts =>
  simp only at h0
  subst h0
  simp only [objB, if_true, Bool.and_eq_true] at h
  have hl := boundB_len h.1
  simp only at hl
  match ts, hl, h with
  | [a], _, h => simp only [objsB, Bool.and_eq_true] at h; exact ⟨a, rfl, h.2.1⟩
  | [], hl, _ => simp at hl
  | _ :: _ :: _, hl, _ => simp at hl; omega
theorem obj_args {t : Tm} (h0 : t.f0 ≠ 3) (h : objB t = true) : ∀ a ∈ t.f3, objB a = true := by
 have : objsB t.f3 = true := by
  cases t with
  | mk k n i ts =>
   simp only at h0
   simp only [objB, if_neg h0] at h
   split at h
   ·simp only [Bool.and_eq_true] at h; exact h.2.2
   ·split at h
    ·simp only [Bool.and_eq_true] at h; exact h.2.2.2
    ·split at h
     ·simp only [Bool.and_eq_true] at h; exact h.2.2.2
     ·cases h
 rw [objsB_all] at this
 exact fun a ha => List.all_eq_true.1 this a ha
theorem atom_args {t : Tm} (h : atomB t = true) : ∀ a ∈ t.f3, objB a = true := by
 unfold atomB at h
 simp only [Bool.and_eq_true] at h
 rw [objsB_all] at h
 exact fun a ha => List.all_eq_true.1 h.2.2.2 a ha
theorem sorts_loop (t : Tm) (ho : okN t) (hs : smallB t = true) (h : ∀ a ∈ t.f3, objB a = true) : ∀ (c j : Nat), j + c = t.f3.length → Ev (fun k => f5_TermSorts.l0 k (j : Int) t.f0 t.f1 t.f2 t.f3) true := by
 have hlen := nTs_len t.f3
 have hn := nT_eq t
 have hok : nT t ≤ 1000000 := ho
 intro c
 induction c with
 | zero =>
  intro j hj
  refine Ev.up ?_
  simp only [f5_TermSorts.l0]
  refine Ev.neg (by omega) ?_
  exact Ev.now _
 | succ c ih =>
  intro j hj
  have hjl : j < t.f3.length := by omega
  have hmem : t.f3[j] ∈ t.f3 := List.getElem_mem _
  refine Ev.up ?_
  simp only [f5_TermSorts.l0]
  refine Ev.pos (by omega) (Ev.pos (by omega) ?_)
  rw [rd_at t.f3 j hjl]
  refine Ev.bind (isObject_ev (okN_arg ho hmem)) ?_
  rw [h _ hmem, small_arg hs hmem, show wrap64 ((j : Int) + 1) = ((j + 1 : Nat) : Int) by rw [w64_in (by omega) (by omega)]; omega]
  exact ih (j + 1) (by omega)
theorem sorts_j1 (t : Tm) (ho : okN t) (hs : smallB t = true) (h : kindB t = true ∨ typB t = true ∨ objB t = true) : Ev (fun k => f5_TermSorts.j1 k (kindB t) (typB t) (objB t) false t.f0 t.f1 t.f2 t.f3) true := by
 refine Ev.up ?_
 simp only [f5_TermSorts.j1, Bool.false_eq_true, ↓reduceIte]
 by_cases h2 : t.f0 = 2
 ·refine Ev.pos h2 ?_
  have h' : typB t = true ∨ kindB t = true := by
   rcases h with h | h | h
   ·exact .inr h
   ·exact .inl h
   ·have := objB_kind h; omega
  obtain ⟨a, b, e, hta, htb, hkb⟩ := pi_parts h2 h'
  have hma : a ∈ t.f3 := by rw [e]; simp
  have hmb : b ∈ t.f3 := by rw [e]; simp
  have oa := okN_arg ho hma
  have ob := okN_arg ho hmb
  have sb := small_arg hs hmb
  rw [e]
  refine Ev.pos (by simp) ?_
  simp only [rd0 a b, rd1 a b]
  refine Ev.bind (isType_ev oa) ?_
  rw [hta, small_arg hs hma]
  refine Ev.pos rfl (Ev.pos (by simp) ?_)
  refine Ev.bind (isKind_ev ob) ?_
  rw [hkb, sb]
  refine Ev.pos (by simp) ?_
  refine Ev.bind (isType_ev ob) ?_
  rw [htb, sb]
  refine Ev.pos (by simp) ?_
  exact Ev.now _
 ·refine Ev.neg h2 ?_
  by_cases h3 : t.f0 = 3
  ·refine Ev.pos h3 ?_
   have hob : objB t = true := by
    rcases h with h | h | h
    ·rcases kindB_kind h with ⟨h1, _⟩ | ⟨h1, _⟩ <;> omega
    ·rcases typB_kind h with ⟨h1, _⟩ | ⟨h1, _⟩ <;> omega
    ·exact h
   obtain ⟨a, e, hoa⟩ := obj_lam h3 hob
   have hma : a ∈ t.f3 := by rw [e]; simp
   rw [e, hob]
   refine Ev.pos (by simp) ?_
   simp only [rd0 a a]
   refine Ev.bind (isObject_ev (okN_arg ho hma)) ?_
   rw [hoa, small_arg hs hma]
   refine Ev.pos (by simp) (Ev.pos (by simp) ?_)
   exact Ev.now _
  ·refine Ev.neg h3 ?_
   refine sorts_loop t ho hs ?_ t.f3.length 0 (by omega)
   rcases h with h | h | h
   ·rcases kindB_kind h with ⟨_, h1⟩ | ⟨h1, _⟩
    ·rw [h1]; simp
    ·exact absurd h1 h2
   ·rcases typB_kind h with ⟨_, h1⟩ | ⟨h1, _⟩
    ·exact atom_args h1
    ·exact absurd h1 h2
   ·exact obj_args h3 h
theorem sorts_no (a b c d : Int) (e : ByteArray) (t : List Tm) (k a' o : Bool) (f0 : Int) (f1 : ByteArray) (f2 : Int) (f3 : List Tm) : Ev (fun q => f5_TermSorts.j1 q k a' o true f0 f1 f2 f3) true := by
 refine Ev.up ?_
 simp only [f5_TermSorts.j1, if_true]
 exact Ev.now _
theorem sorts_j0 (t : Tm) (ho : okN t) (hs : smallB t = true) : Ev (fun k => f5_TermSorts.j0 k (kindB t) (typB t) (objB t) false t.f0 t.f1 t.f2 t.f3) true := by
 refine Ev.up ?_
 simp only [f5_TermSorts.j0, Bool.false_eq_true, ↓reduceIte]
 have H := sorts_j1 t ho hs
 cases hk : kindB t
 ·cases ha : typB t
  ·cases hb : objB t
   ·exact sorts_no 0 0 0 0 ⟨#[]⟩ [] _ _ _ _ _ _ _
   ·rw [hk, ha, hb] at H; exact H (by simp)
  ·rw [hk, ha] at H; exact H (by simp)
 ·rw [hk] at H; exact H (by simp)
theorem TermSorts : f5_TermSorts.Pure := by
 intro l m hl _ _ hm _ _
 unfold maxLen at hl hm
 obtain ⟨t, he, hn⟩ := made_some l m (by omega) (by omega)
 have ho : okN t := by unfold okN; omega
 refine Ev.rounds (g := fun k => f5_TermSorts.f k l m) ?_
 simp only [f5_TermSorts.f]
 refine Ev.bind he (Ev.bind (isKind_ev ho) (Ev.bind (isType_ev ho) (Ev.bind (isObject_ev ho) (Ev.bind (wf_ev ho) ?_))))
 show Ev (fun n => if (kindB t && smallB t) = true then _ else _) true
 cases hs : smallB t
 ·have hw : ((wfE t == 0) != false) = false := by
   unfold wfE
   rw [hs]
   cases sortB t <;> rfl
  simp only [Bool.and_false, Bool.false_eq_true, ↓reduceIte, hw]
  refine Ev.up ?_
  simp only [f5_TermSorts.j0, Bool.false_eq_true, ↓reduceIte, Bool.not_false]
  exact sorts_no 0 0 0 0 ⟨#[]⟩ [] _ _ _ _ _ _ _
 ·have H := sorts_j0 t ho hs
  simp only [Bool.and_true]
  unfold wfE sortB
  rw [hs]
  cases hk : kindB t
  ·cases ha : typB t
   ·rw [hk, ha] at H
    cases hb : objB t
    ·rw [hb] at H; simpa using H
    ·rw [hb] at H; simpa using H
   ·rw [hk, ha] at H
    cases hb : objB t
    ·rw [hb] at H; simpa using H
    ·rw [hb] at H
     have h4 : t.f0 = 4 := by
      rcases typB_kind ha with ⟨h1, _⟩ | ⟨h1, _⟩
      ·exact h1
      ·have := objB_kind hb; omega
     have e4 : (t.f0 != 4) = false := by rw [h4]; rfl
     simpa [e4] using H
  ·have ha := kind_not _ t (Nat.le_refl _) hk
   have hb := kind_not_obj hk
   rw [hk, ha, hb] at H
   rw [ha, hb]
   simpa using H
end Go.Proofs.YtpkkoiljombooaaDoor.G
