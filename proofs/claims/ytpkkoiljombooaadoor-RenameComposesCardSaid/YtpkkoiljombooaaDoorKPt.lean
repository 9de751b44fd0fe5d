import Derived.Test.YtpkkoiljombooaaDoorKG0
import Derived.Test.YtpkkoiljombooaaDoorKG4
import Derived.Test.YtpkkoiljombooaaDoorKG5
import Derived.Test.YtpkkoiljombooaaDoorKG6
import Derived.Test.YtpkkoiljombooaaDoorKG7
import Derived.Test.YtpkkoiljombooaaDoorKH1
import Derived.Test.YtpkkoiljombooaaDoorKH2
import Derived.Test.YtpkkoiljombooaaDoorKH3
import Derived.Test.YtpkkoiljombooaaDoorKSp
set_option linter.unusedVariables false
set_option linter.unusedSimpArgs false
namespace Go.Proofs.YtpkkoiljombooaaDoor.G
open Go.RowKit Go.Proofs.YtpkkoiljombooaaDoorW.PrintWords Go.Proofs.YtpkkoiljombooaaDoorW.PrintLast
theorem Ev.pos {α : Type} {c : Prop} [Decidable c] {f g : Nat → Option α} {r : α} (hc : c) (h : Ev f r) : Ev (fun k => if c then f k else g k) r := Ev.congr (fun _ => if_pos hc) h
theorem Ev.neg {α : Type} {c : Prop} [Decidable c] {f g : Nat → Option α} {r : α} (hc : ¬ c) (h : Ev g r) : Ev (fun k => if c then f k else g k) r := Ev.congr (fun _ => if_neg hc) h
theorem Ev.up {α : Type} {g : Nat → Option α} {r : α} (h : Ev (fun k => g (k + 1)) r) : Ev g r := Ev.step (fun _ => rfl) h
theorem w64_in {n : Int} (h0 : -9223372036854775808 ≤ n) (h1 : n ≤ 9223372036854775807) : wrap64 n = n := by unfold wrap64; omega
mutual
def nT : Tm → Nat
 | ⟨_, _, _, ts⟩ => nTs ts + 1
def nTs : List Tm → Nat
 | [] => 0
 | a :: ts => nT a + nTs ts
end
mutual
def dT : Tm → Nat
 | ⟨_, _, _, ts⟩ => dTs ts + 1
def dTs : List Tm → Nat
 | [] => 0
 | a :: ts => max (dT a) (dTs ts)
end
theorem nT_eq (t : Tm) : nT t = nTs t.f3 + 1 := by cases t; simp [nT]
theorem dT_eq (t : Tm) : dT t = dTs t.f3 + 1 := by cases t; simp [dT]
theorem nT_pos (t : Tm) : 0 < nT t := by rw [nT_eq]; omega
theorem nTs_mem {ts : List Tm} {a : Tm} (h : a ∈ ts) : nT a ≤ nTs ts := by
 induction ts with
 | nil => cases h
 | cons b bs ih =>
  simp only [nTs]
  cases h with
  | head => omega
  | tail _ h => have := ih h; omega
theorem dTs_mem {ts : List Tm} {a : Tm} (h : a ∈ ts) : dT a ≤ dTs ts := by
 induction ts with
 | nil => cases h
 | cons b bs ih =>
  simp only [dTs]
  cases h with
  | head => omega
  | tail _ h => have := ih h; omega
theorem nTs_len (ts : List Tm) : ts.length ≤ nTs ts := by
 induction ts with
 | nil => simp [nTs]
 | cons b bs ih => have := nT_pos b; simp only [nTs, List.length_cons]; omega
theorem nTs_le {ts : List Tm} {B : Nat} (h : ∀ a ∈ ts, nT a ≤ B) : nTs ts ≤ ts.length * B := by
 induction ts with
 | nil => simp [nTs]
 | cons b bs ih =>
  simp only [nTs, List.length_cons, Nat.succ_mul]
  have h1 := h b (by simp)
  have h2 := ih (fun a ha => h a (by simp [ha]))
  omega
theorem dT_le_nT : ∀ (N : Nat) (t : Tm), nT t ≤ N → dT t ≤ nT t := by
 intro N
 induction N with
 | zero => intro t h; have := nT_pos t; omega
 | succ N ih =>
  intro t h
  rw [nT_eq] at h ⊢
  rw [dT_eq]
  have : ∀ ts : List Tm, nTs ts ≤ N → dTs ts ≤ nTs ts := by
   intro ts
   induction ts with
   | nil => simp [dTs]
   | cons a bs ih2 =>
    intro hh
    simp only [nTs, dTs] at hh ⊢
    have h1 := ih a (by omega)
    have h2 := ih2 (by omega)
    omega
  have := this t.f3 (by omega)
  omega
mutual
theorem fit_nT : ∀ (t : Tm), nT t ≤ 4611686018427387904 → fitT t = true
 | ⟨k, n, i, ts⟩, h => by
  simp only [nT] at h
  have := nTs_len ts
  simp only [fitT, Bool.and_eq_true, decide_eq_true_eq]
  exact ⟨by omega, fit_nTs ts (by omega)⟩
theorem fit_nTs : ∀ (ts : List Tm), nTs ts ≤ 4611686018427387904 → fitL ts = true
 | [], _ => rfl
 | a :: ts, h => by
  simp only [nTs] at h
  simp only [fitL, Bool.and_eq_true]
  exact ⟨fit_nT a (by omega), fit_nTs ts (by omega)⟩
end
mutual
theorem nodes_nT : ∀ (t : Tm) (b : Int), (nodesT b t).length = nT t
 | ⟨k, n, i, ts⟩, b => by
  simp only [nodesT, List.length_cons, nT]
  rw [nodes_nTs ts k b 0]
theorem nodes_nTs : ∀ (ts : List Tm) (k b : Int) (j : Nat), (nodesL k b j ts).length = nTs ts
 | [], _, _, _ => by simp [nodesL, nTs]
 | a :: ts, k, b, j => by
  simp only [nodesL, List.length_append, nTs]
  rw [nodes_nT a _, nodes_nTs ts k b (j + 1)]
end
abbrev okN (t : Tm) : Prop := nT t ≤ 1000000
theorem okN_arg {t a : Tm} (h : okN t) (ha : a ∈ t.f3) : okN a := by
 have := nTs_mem ha; unfold okN at *; rw [nT_eq] at h; omega
theorem okN_fit {t : Tm} (h : okN t) : fitT t = true := fit_nT t (by unfold okN at h; omega)
theorem size_some {t : Tm} (h : okN t) : term_Size.f t.f0 t.f1 t.f2 t.f3 = some (nT t : Int) := by
 unfold term_Size.f
 rw [tm_eta, if_pos (okN_fit h), sizeW, nodes_nT, w64_in (by omega) (by unfold okN at h; omega)]
theorem object_some {t : Tm} (h : okN t) : term_object.f t.f0 t.f1 t.f2 t.f3 = some (objB t) := by
 unfold term_object.f
 rw [tm_eta, if_pos (okN_fit h)]
theorem atom_some {t : Tm} (h : okN t) : term_atom.f t.f0 t.f1 t.f2 t.f3 = some (atomB t) := by
 unfold term_atom.f
 rw [tm_eta, if_pos (okN_fit h)]
theorem bnd_some (t : Tm) (a : Int) : term_bound.f t.f0 t.f1 t.f2 t.f3 a = some (boundB t a) := by
 unfold term_bound.f boundB binderName token_IsName.f
 by_cases h1 : t.f2 = 0 <;> by_cases h2 : (t.f3.length : Int) = a <;> by_cases h3 : t.f1.toList = [] <;> by_cases h4 : t.f1.toList = [95] <;> simp [h1, h2, h3, h4]
theorem rd_at (l : List Tm) (k : Nat) (hk : k < l.length) : rd_T25 l (k : Int) = l[k] := mem_rd hk
theorem depth_loop (xs : List Tm) (hn : nTs xs ≤ 1000000) (ih : ∀ a ∈ xs, Ev (fun k => term_Depth.f k a.f0 a.f1 a.f2 a.f3) (dT a : Int)) :
  ∀ (c j : Nat) (m : Nat), j + c = xs.length → m ≤ 1000000 → Ev (fun k => term_Depth.l0 k (m : Int) xs (xs.length : Int) (j : Int)) ((max m (dTs (xs.drop j)) + 1 : Nat) : Int) := by
 intro c
 induction c with
 | zero =>
  intro j m hj hm
  refine Ev.up ?_
  simp only [term_Depth.l0]
  refine Ev.neg (by omega) ?_
  rw [List.drop_eq_nil_of_le (by omega), w64_in (by omega) (by omega)]
  simp only [dTs, Nat.max_zero]
  exact Ev.now _
 | succ c ihc =>
  intro j m hj hm
  have hjl : j < xs.length := by omega
  have hlen := nTs_len xs
  refine Ev.up ?_
  simp only [term_Depth.l0]
  refine Ev.pos (by omega) ?_
  refine Ev.pos (by omega) ?_
  refine Ev.pos (by omega) ?_
  rw [rd_at xs j hjl]
  have hmem : xs[j] ∈ xs := List.getElem_mem _
  refine Ev.bind (ih _ hmem) ?_
  have e : wrap64 ((j : Int) + 1) = ((j + 1 : Nat) : Int) := by rw [w64_in (by omega) (by omega)]; omega
  have hd := dT_le_nT _ xs[j] (Nat.le_refl _)
  have hd2 := nTs_mem hmem
  have em : mx (m : Int) (dT xs[j] : Int) = ((max m (dT xs[j]) : Nat) : Int) := by unfold mx; split <;> omega
  rw [e]
  have := ihc (j + 1) (max m (dT xs[j])) (by omega) (by omega)
  rw [em]
  rw [List.drop_eq_getElem_cons hjl]
  simp only [dTs]
  rw [show max m (max (dT xs[j]) (dTs (xs.drop (j + 1)))) = max (max m (dT xs[j])) (dTs (xs.drop (j + 1))) by omega]
  exact this
theorem depth_ev : ∀ (N : Nat) (t : Tm), nT t ≤ N → okN t → Ev (fun k => term_Depth.f k t.f0 t.f1 t.f2 t.f3) (dT t : Int) := by
 intro N
 induction N with
 | zero => intro t h; have := nT_pos t; omega
 | succ N ih =>
  intro t h ho
  refine Ev.up ?_
  simp only [term_Depth.f]
  have h1 := nT_eq t
  have := depth_loop t.f3 (by unfold okN at ho; omega) (fun a ha => ih a (by have := nTs_mem ha; omega) (okN_arg ho ha)) t.f3.length 0 0 (by omega) (by omega)
  simp only [List.drop_zero, Nat.zero_max] at this
  rw [dT_eq]
  exact this
def smallB (t : Tm) : Bool := decide (nT t ≤ 4096) && decide (dT t ≤ 128)
theorem small_ev {t : Tm} (h : okN t) : Ev (fun k => term_small.f k t.f0 t.f1 t.f2 t.f3) (smallB t) := by
 simp only [term_small.f, size_some h, Option.bind_some]
 by_cases h1 : nT t ≤ 4096
 ·refine Ev.pos (by omega) ?_
  refine Ev.bind (depth_ev _ t (Nat.le_refl _) h) ?_
  have : smallB t = decide ((dT t : Int) ≤ 128) := by
   unfold smallB
   rw [Bool.eq_iff_iff]
   simp [h1]; omega
  rw [this]
  exact Ev.now _
 ·refine Ev.neg (by omega) ?_
  have : smallB t = false := by simp [smallB, h1]
  rw [this]
  exact Ev.now _
def typB : Tm → Bool
 | ⟨k, n, i, [a, b]⟩ => atomB ⟨k, n, i, [a, b]⟩ || (decide (k = 2) && (boundB ⟨k, n, i, [a, b]⟩ 2 && (typB a && typB b)))
 | t => atomB t
def kindB : Tm → Bool
 | ⟨k, n, i, [a, b]⟩ => decide (k = 2) && (boundB ⟨k, n, i, [a, b]⟩ 2 && (typB a && kindB b))
 | t => decide (t.f0 = 1) && (decide (t.f1.toList = []) && (decide (t.f2 = 0) && decide (t.f3.length = 0)))
theorem two_of {ts : List Tm} (h : ts.length = 2) : ∃ a b, ts = [a, b] := by
 match ts, h with
 | [a, b], _ => exact ⟨a, b, rfl⟩
theorem typB_two (k : Int) (n : ByteArray) (i : Int) (a b : Tm) : typB ⟨k, n, i, [a, b]⟩ = (atomB ⟨k, n, i, [a, b]⟩ || (decide (k = 2) && (boundB ⟨k, n, i, [a, b]⟩ 2 && (typB a && typB b)))) := by
 rw [typB]
theorem typB_other (t : Tm) (h : t.f3.length ≠ 2) : typB t = atomB t := by
 cases t with
 | mk k n i ts =>
  rw [typB]
  intro k' n' i' a b e
  injection e with _ _ _ e
  subst e
  exact h rfl
theorem kindB_two (k : Int) (n : ByteArray) (i : Int) (a b : Tm) : kindB ⟨k, n, i, [a, b]⟩ = (decide (k = 2) && (boundB ⟨k, n, i, [a, b]⟩ 2 && (typB a && kindB b))) := by
 rw [kindB]
theorem kindB_other (t : Tm) (h : t.f3.length ≠ 2) : kindB t = (decide (t.f0 = 1) && (decide (t.f1.toList = []) && (decide (t.f2 = 0) && decide (t.f3.length = 0)))) := by
 cases t with
 | mk k n i ts =>
  rw [kindB]
  intro k' n' i' a b e
  injection e with _ _ _ e
  subst e
  exact h rfl
theorem boundB_len {t : Tm} {a : Int} (h : boundB t a = true) : (t.f3.length : Int) = a := by
 unfold boundB at h
 simp only [Bool.and_eq_true, decide_eq_true_eq] at h
 exact h.2.1
theorem rd0 (a b : Tm) (l : List Tm) : rd_T25 (a :: l) 0 = a := rfl
theorem rd1 (a b : Tm) (l : List Tm) : rd_T25 (a :: b :: l) 1 = b := rfl
theorem typed_ev : ∀ (N : Nat) (t : Tm), nT t ≤ N → okN t → Ev (fun k => term_typed.f k t.f0 t.f1 t.f2 t.f3) (typB t) := by
 intro N
 induction N with
 | zero => intro t h; have := nT_pos t; omega
 | succ N ih =>
  intro t h ho
  refine Ev.up ?_
  simp only [term_typed.f, atom_some ho, Option.bind_some]
  by_cases ha : atomB t = true
  ·refine Ev.pos ha ?_
   have : typB t = true := by
    by_cases h2 : t.f3.length = 2
    ·obtain ⟨a, b, e⟩ := two_of h2
     cases t with
     | mk k n i ts => simp only at e; subst e; rw [typB_two, ha]; rfl
    ·rw [typB_other t h2, ha]
   rw [this]
   exact Ev.now _
  ·refine Ev.neg ha ?_
   simp only [Bool.not_eq_true] at ha
   by_cases hk : t.f0 = 2
   ·refine Ev.pos hk ?_
    simp only [bnd_some, Option.bind_some]
    by_cases hb : boundB t 2 = true
    ·refine Ev.pos hb ?_
     obtain ⟨a, b, e⟩ := two_of (by have := boundB_len hb; omega : t.f3.length = 2)
     cases t with
     | mk k n i ts =>
      simp only at e hk
      subst e
      have hna : nT a ≤ N ∧ okN a := by have := nTs_mem (show a ∈ [a, b] by simp); simp only [nT] at h; exact ⟨by omega, okN_arg ho (by simp)⟩
      have hnb : nT b ≤ N ∧ okN b := by have := nTs_mem (show b ∈ [a, b] by simp); simp only [nT] at h; exact ⟨by omega, okN_arg ho (by simp)⟩
      simp only [rd0 a b, rd1 a b]
      refine Ev.pos (by simp) ?_
      refine Ev.bind (ih a hna.1 hna.2) ?_
      rw [typB_two, ha, hb, decide_eq_true hk]
      simp only [Bool.false_or, Bool.true_and]
      by_cases hta : typB a = true
      ·refine Ev.pos hta ?_
       refine Ev.pos (by simp) ?_
       refine Ev.bind (ih b hnb.1 hnb.2) ?_
       rw [hta]
       exact Ev.now _
      ·refine Ev.neg hta ?_
       simp only [Bool.not_eq_true] at hta
       rw [hta]
       exact Ev.now _
    ·refine Ev.neg hb ?_
     have : typB t = false := by
      by_cases h2 : t.f3.length = 2
      ·obtain ⟨a, b, e⟩ := two_of h2
       cases t with
       | mk k n i ts => simp only at e; subst e; rw [typB_two, ha]; simp only [Bool.not_eq_true] at hb; rw [hb]; simp
      ·rw [typB_other t h2, ha]
     rw [this]
     exact Ev.now _
   ·refine Ev.neg hk ?_
    have : typB t = false := by
     by_cases h2 : t.f3.length = 2
     ·obtain ⟨a, b, e⟩ := two_of h2
      cases t with
      | mk k n i ts => simp only at e hk; subst e; rw [typB_two, ha, decide_eq_false hk]; simp
     ·rw [typB_other t h2, ha]
    rw [this]
    exact Ev.now _
theorem kind_ev : ∀ (N : Nat) (t : Tm), nT t ≤ N → okN t → Ev (fun k => term_kind.f k t.f0 t.f1 t.f2 t.f3) (kindB t) := by
 intro N
 induction N with
 | zero => intro t h; have := nT_pos t; omega
 | succ N ih =>
  intro t h ho
  refine Ev.up ?_
  simp only [term_kind.f]
  by_cases h1 : t.f0 = 1
  ·have hne : ¬ (t.f0 = 2) := by omega
   refine Ev.pos h1 ?_
   have e : kindB t = (decide (t.f1.toList = []) && (decide (t.f2 = 0) && decide (t.f3.length = 0))) := by
    by_cases h2 : t.f3.length = 2
    ·obtain ⟨a, b, e⟩ := two_of h2
     cases t with
     | mk k n i ts => simp only at e hne; subst e; rw [kindB_two, decide_eq_false hne]; simp
    ·rw [kindB_other t h2, decide_eq_true h1, Bool.true_and]
   rw [e]
   by_cases h3 : t.f1.toList = []
   ·refine Ev.pos h3 ?_
    rw [decide_eq_true h3, Bool.true_and]
    by_cases h4 : t.f2 = 0
    ·refine Ev.pos h4 ?_
     rw [decide_eq_true h4, Bool.true_and]
     have : ((t.f3.length : Int) == 0) = decide (t.f3.length = 0) := by rw [Bool.eq_iff_iff]; simp
     rw [this]
     exact Ev.now _
    ·refine Ev.neg h4 ?_
     rw [decide_eq_false h4]
     exact Ev.now _
   ·refine Ev.neg h3 ?_
    rw [decide_eq_false h3]
    exact Ev.now _
  ·refine Ev.neg h1 ?_
   by_cases hk : t.f0 = 2
   ·refine Ev.pos hk ?_
    simp only [bnd_some, Option.bind_some]
    by_cases hb : boundB t 2 = true
    ·refine Ev.pos hb ?_
     obtain ⟨a, b, e⟩ := two_of (by have := boundB_len hb; omega : t.f3.length = 2)
     cases t with
     | mk k n i ts =>
      simp only at e hk
      subst e
      have hna : nT a ≤ N ∧ okN a := by have := nTs_mem (show a ∈ [a, b] by simp); simp only [nT] at h; exact ⟨by omega, okN_arg ho (by simp)⟩
      have hnb : nT b ≤ N ∧ okN b := by have := nTs_mem (show b ∈ [a, b] by simp); simp only [nT] at h; exact ⟨by omega, okN_arg ho (by simp)⟩
      simp only [rd0 a b, rd1 a b]
      refine Ev.pos (by simp) ?_
      refine Ev.bind (typed_ev _ a (Nat.le_refl _) hna.2) ?_
      rw [kindB_two, hb, decide_eq_true hk]
      simp only [Bool.true_and]
      by_cases hta : typB a = true
      ·refine Ev.pos hta ?_
       refine Ev.pos (by simp) ?_
       refine Ev.bind (ih b hnb.1 hnb.2) ?_
       rw [hta]
       exact Ev.now _
      ·refine Ev.neg hta ?_
       simp only [Bool.not_eq_true] at hta
       rw [hta]
       exact Ev.now _
    ·refine Ev.neg hb ?_
     have : kindB t = false := by
      by_cases h2 : t.f3.length = 2
      ·obtain ⟨a, b, e⟩ := two_of h2
       cases t with
       | mk k n i ts => simp only at e; subst e; rw [kindB_two]; simp only [Bool.not_eq_true] at hb; rw [hb]; simp
      ·rw [kindB_other t h2, decide_eq_false h1]; simp
     rw [this]
     exact Ev.now _
   ·refine Ev.neg hk ?_
    have : kindB t = false := by
     by_cases h2 : t.f3.length = 2
     ·obtain ⟨a, b, e⟩ := two_of h2
      cases t with
      | mk k n i ts => simp only at e hk; subst e; rw [kindB_two, decide_eq_false hk]; simp
     ·rw [kindB_other t h2, decide_eq_false h1]; simp
    rw [this]
    exact Ev.now _
def sortB (t : Tm) : Bool := objB t || (typB t || kindB t)
def wfE (t : Tm) : Int := if sortB t = true then (if smallB t = true then 0 else 2) else 1
theorem wf_j0 {t : Tm} (h : okN t) (b : Bool) : Ev (fun k => term_WellFormed.j0 k b t.f0 t.f1 t.f2 t.f3) (if b = true then 1 else if smallB t = true then 0 else 2) := by
 refine Ev.up ?_
 simp only [term_WellFormed.j0]
 cases b
 ·simp only [Bool.false_eq_true, if_false]
  refine Ev.bind (small_ev h) ?_
  cases smallB t
  ·exact Ev.now _
  ·exact Ev.now _
 ·exact Ev.now _
theorem wf_ev {t : Tm} (h : okN t) : Ev (fun k => term_WellFormed.f k t.f0 t.f1 t.f2 t.f3) (wfE t) := by
 simp only [term_WellFormed.f, object_some h, Option.bind_some]
 unfold wfE sortB
 by_cases h1 : objB t = true
 ·refine Ev.pos h1 ?_
  rw [h1]
  exact wf_j0 h false
 ·refine Ev.neg h1 ?_
  simp only [Bool.not_eq_true] at h1
  rw [h1]
  refine Ev.bind (typed_ev _ t (Nat.le_refl _) h) ?_
  by_cases h2 : typB t = true
  ·refine Ev.pos h2 ?_
   rw [h2]
   exact wf_j0 h false
  ·refine Ev.neg h2 ?_
   simp only [Bool.not_eq_true] at h2
   rw [h2]
   refine Ev.bind (kind_ev _ t (Nat.le_refl _) h) ?_
   cases h3 : kindB t
   ·exact wf_j0 h true
   ·exact wf_j0 h false
end Go.Proofs.YtpkkoiljombooaaDoor.G
