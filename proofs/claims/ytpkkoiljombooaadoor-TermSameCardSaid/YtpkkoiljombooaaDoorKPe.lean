import Derived.Test.YtpkkoiljombooaaDoorKG0
import Derived.Test.YtpkkoiljombooaaDoorKG13
import Derived.Test.YtpkkoiljombooaaDoorKPs
import Derived.Test.YtpkkoiljombooaaDoorKH5
set_option linter.unusedVariables false
set_option linter.unusedSimpArgs false
namespace Go.Proofs.YtpkkoiljombooaaDoor.G
open Go.RowKit Go.Proofs.YtpkkoiljombooaaDoorW.PrintWords Go.Proofs.YtpkkoiljombooaaDoorW.PrintLast
theorem same_refl : ∀ (N : Nat) (x : Tm), nT x ≤ N → sameT x x = true := by
 intro N
 induction N with
 | zero => intro x h; have := nT_pos x; omega
 | succ N ih =>
  intro x h
  rw [nT_eq] at h
  have hl : ∀ ts : List Tm, nTs ts ≤ N → sameL ts ts = true := by
   intro ts
   induction ts with
   | nil => intro _; simp [sameL]
   | cons a r ih2 =>
    intro h2
    simp only [nTs] at h2
    simp only [sameL, Bool.and_eq_true]
    exact ⟨ih a (by omega), ih2 (by omega)⟩
  rw [sameT_eq, hl x.f3 (by omega)]
  simp
theorem same_symm : ∀ (N : Nat) (x y : Tm), nT x ≤ N → sameT x y = sameT y x := by
 intro N
 induction N with
 | zero => intro x y h; have := nT_pos x; omega
 | succ N ih =>
  intro x y h
  rw [nT_eq] at h
  have hl : ∀ ts us : List Tm, nTs ts ≤ N → sameL ts us = sameL us ts := by
   intro ts
   induction ts with
   | nil => intro us _; cases us <;> simp [sameL]
   | cons a r ih2 =>
    intro us h2
    simp only [nTs] at h2
    cases us with
    | nil => simp [sameL]
    | cons b s => simp only [sameL]; rw [ih a b (by omega), ih2 s (by omega)]
  rw [sameT_eq, sameT_eq, hl x.f3 y.f3 (by omega)]
  by_cases h0 : x.f0 = y.f0
  ·rw [h0, decide_eq_true (rfl : y.f0 = y.f0)]
   congr 1
   congr 1
   ·rw [Bool.eq_iff_iff]; simp [eq_comm]
   ·congr 1
    congr 1
    rw [Bool.eq_iff_iff]; simp [eq_comm]
  ·rw [decide_eq_false h0, decide_eq_false (fun e : y.f0 = x.f0 => h0 e.symm)]
   simp
theorem same_trans : ∀ (N : Nat) (x y z : Tm), nT x ≤ N → sameT x y = true → sameT y z = true → sameT x z = true := by
 intro N
 induction N with
 | zero => intro x y z h; have := nT_pos x; omega
 | succ N ih =>
  intro x y z h h1 h2
  rw [nT_eq] at h
  have hl : ∀ ts us vs : List Tm, nTs ts ≤ N → sameL ts us = true → sameL us vs = true → sameL ts vs = true := by
   intro ts
   induction ts with
   | nil => intro us vs _ a b; cases us <;> simp [sameL] at a; exact b
   | cons a r ih2 =>
    intro us vs h2 e1 e2
    simp only [nTs] at h2
    cases us with
    | nil => simp [sameL] at e1
    | cons b s =>
     cases vs with
     | nil => simp [sameL] at e2
     | cons c q =>
      simp only [sameL, Bool.and_eq_true] at e1 e2 ⊢
      exact ⟨ih a b c (by omega) e1.1 e2.1, ih2 s q (by omega) e1.2 e2.2⟩
  rw [sameT_eq] at h1 h2 ⊢
  simp only [Bool.and_eq_true, Bool.or_eq_true, decide_eq_true_eq] at h1 h2 ⊢
  obtain ⟨a1, a2, a3, a4⟩ := h1
  obtain ⟨b1, b2, b3, b4⟩ := h2
  refine ⟨a1.trans b1, a2.trans b2, ?_, hl _ _ _ (by omega) a4 b4⟩
  rcases a3 with a3 | a3
  ·rcases b3 with b3 | b3
   ·exact .inl (a3.trans b3)
   ·rw [a1]; exact .inr b3
  ·exact .inr a3
theorem same_left {x y z : Tm} (h : sameT x y = true) : sameT y z = sameT x z := by
 rw [Bool.eq_iff_iff]
 constructor
 ·exact fun h2 => same_trans _ x y z (Nat.le_refl _) h h2
 ·intro h2
  have h3 : sameT y x = true := by rw [same_symm _ y x (Nat.le_refl _)]; exact h
  exact same_trans _ y x z (Nat.le_refl _) h3 h2
theorem sameL_drop {a b : List Tm} (j : Nat) (h1 : j < a.length) (h2 : j < b.length) : sameL (a.drop j) (b.drop j) = (sameT a[j] b[j] && sameL (a.drop (j + 1)) (b.drop (j + 1))) := by
 rw [List.drop_eq_getElem_cons h1, List.drop_eq_getElem_cons h2]
 simp [sameL]
theorem rsame_loop (x y : Tm) (hx : okN x) (hl : x.f3.length = y.f3.length)
  (ih : ∀ a ∈ x.f3, ∀ b ∈ y.f3, Ev (fun k => r5_Same.f k a.f0 a.f1 a.f2 a.f3 b.f0 b.f1 b.f2 b.f3) (sameT a b)) :
  ∀ (c j : Nat), j + c = x.f3.length → Ev (fun k => r5_Same.l0 k (j : Int) x.f0 x.f1 x.f2 x.f3 y.f0 y.f1 y.f2 y.f3) (sameL (x.f3.drop j) (y.f3.drop j)) := by
 have hlen := nTs_len x.f3
 have hn := nT_eq x
 have hok : nT x ≤ 1000000 := hx
 intro c
 induction c with
 | zero =>
  intro j hj
  rw [List.drop_eq_nil_of_le (by omega), List.drop_eq_nil_of_le (by omega)]
  refine Ev.up ?_
  simp only [r5_Same.l0, sameL]
  refine Ev.neg (by omega) ?_
  exact Ev.now _
 | succ c ihc =>
  intro j hj
  have h1 : j < x.f3.length := by omega
  have h2 : j < y.f3.length := by omega
  rw [sameL_drop j h1 h2]
  refine Ev.up ?_
  simp only [r5_Same.l0]
  refine Ev.pos (by omega) (Ev.pos (by omega) (Ev.pos (by omega) ?_))
  rw [rd_at x.f3 j h1, rd_at y.f3 j h2, show wrap64 ((j : Int) + 1) = ((j + 1 : Nat) : Int) by rw [w64_in (by omega) (by omega)]; omega]
  refine Ev.bind (ih _ (List.getElem_mem _) _ (List.getElem_mem _)) ?_
  cases hs : sameT x.f3[j] y.f3[j]
  ·exact Ev.now _
  ·simp only [Bool.true_and]
   exact ihc (j + 1) (by omega)
theorem rsame_j1 {x y : Tm} (h : Ev (fun k => r5_Same.l0 k 0 x.f0 x.f1 x.f2 x.f3 y.f0 y.f1 y.f2 y.f3) (sameL x.f3 y.f3)) (b : Bool) :
  Ev (fun k => r5_Same.j1 k b x.f0 x.f1 x.f2 x.f3 y.f0 y.f1 y.f2 y.f3) (!b && sameL x.f3 y.f3) := by
 refine Ev.up ?_
 simp only [r5_Same.j1]
 cases b
 ·exact h
 ·exact Ev.now _
theorem rsame_ev : ∀ (N : Nat) (x y : Tm), nT x ≤ N → okN x → Ev (fun k => r5_Same.f k x.f0 x.f1 x.f2 x.f3 y.f0 y.f1 y.f2 y.f3) (sameT x y) := by
 intro N
 induction N with
 | zero => intro x y h; have := nT_pos x; omega
 | succ N ih =>
  intro x y h ho
  have hn := nT_eq x
  have no : ∀ r : Bool, r = false → Ev (fun k => r5_Same.j0 k true x.f0 x.f1 x.f2 x.f3 y.f0 y.f1 y.f2 y.f3) r := by
   intro r hr
   subst hr
   refine Ev.up ?_
   simp only [r5_Same.j0, if_true]
   exact Ev.now _
  refine Ev.up ?_
  simp only [r5_Same.f]
  rw [sameT_eq]
  by_cases h0 : x.f0 = y.f0
  ·refine Ev.pos h0 ?_
   rw [decide_eq_true h0, Bool.true_and]
   by_cases h2 : x.f2 = y.f2
   ·refine Ev.pos h2 ?_
    rw [decide_eq_true h2, Bool.true_and]
    by_cases hl : x.f3.length = y.f3.length
    ·have hb : ((x.f3.length : Int) != (y.f3.length : Int)) = false := by rw [hl]; simp
     rw [hb]
     have hloop := rsame_loop x y ho hl (fun a ha b hb => ih a b (by have := nTs_mem ha; omega) (okN_arg ho ha)) x.f3.length 0 (by omega)
     simp only [List.drop_zero] at hloop
     refine Ev.up ?_
     simp only [r5_Same.j0, Bool.false_eq_true, ↓reduceIte]
     by_cases k2 : x.f0 = 2
     ·refine Ev.pos k2 ?_
      rw [decide_eq_true k2]
      have := rsame_j1 hloop false
      simpa using this
     ·refine Ev.neg k2 ?_
      rw [decide_eq_false k2]
      by_cases k3 : x.f0 = 3
      ·refine Ev.pos k3 ?_
       rw [decide_eq_true k3]
       have := rsame_j1 hloop false
       simpa using this
      ·refine Ev.neg k3 ?_
       rw [decide_eq_false k3]
       have := rsame_j1 hloop (x.f1.toList != y.f1.toList)
       have e : (!(x.f1.toList != y.f1.toList)) = decide (x.f1.toList = y.f1.toList) := by
        rw [Bool.eq_iff_iff]; simp
       rw [e] at this
       simpa using this
    ·have hb : ((x.f3.length : Int) != (y.f3.length : Int)) = true := by
      rw [bne_iff_ne]; omega
     rw [hb]
     exact no _ (by rw [sameL_len hl]; simp)
   ·refine Ev.neg h2 ?_
    exact no _ (by rw [decide_eq_false h2]; rfl)
  ·refine Ev.neg h0 ?_
   exact no _ (by rw [decide_eq_false h0]; rfl)
theorem ren_loop (x : Tm) (n : Int) (hx : okN x) (m : ByteArray)
  (ih : ∀ a ∈ x.f3, ∀ n, ∃ u, Ev (fun k => f5_renamed.f k a.f0 a.f1 a.f2 a.f3 n) (TQ u) ∧ sameT a u = true ∧ nT u = nT a) :
  ∀ (c j : Nat) (us : List Tm), j + c = x.f3.length → us.length = j → ∃ us', Ev (fun k => f5_renamed.l0 k n (j : Int) x.f0 x.f1 x.f2 x.f3 x.f0 m x.f2 us) (x.f0, m, x.f2, us ++ us') ∧ sameL (x.f3.drop j) us' = true ∧ nTs us' = nTs (x.f3.drop j) := by
 have hlen := nTs_len x.f3
 have hn := nT_eq x
 have hok : nT x ≤ 1000000 := hx
 intro c
 induction c with
 | zero =>
  intro j us hj hu
  refine ⟨[], ?_, ?_, ?_⟩
  ·refine Ev.up ?_
   simp only [f5_renamed.l0, List.append_nil]
   refine Ev.neg (by omega) ?_
   exact Ev.now _
  ·rw [List.drop_eq_nil_of_le (by omega)]; simp [sameL]
  ·rw [List.drop_eq_nil_of_le (by omega)]
 | succ c ihc =>
  intro j us hj hu
  have h1 : j < x.f3.length := by omega
  obtain ⟨u, he, hs, hu2⟩ := ih _ (List.getElem_mem h1) (wrap64 (wrap64 (Int.tdiv n 4) + (j : Int)))
  obtain ⟨us', he', hs', hn'⟩ := ihc (j + 1) (us ++ [u]) (by omega) (by simp; omega)
  refine ⟨u :: us', ?_, ?_, ?_⟩
  ·refine Ev.up ?_
   simp only [f5_renamed.l0]
   refine Ev.pos (by omega) (Ev.pos (by omega) ?_)
   rw [rd_at x.f3 j h1, show wrap64 ((j : Int) + 1) = ((j + 1 : Nat) : Int) by rw [w64_in (by omega) (by omega)]; omega]
   refine Ev.bind he ?_
   refine Ev.pos (by omega) ?_
   simp only [tm_eta]
   simpa using he'
  ·rw [List.drop_eq_getElem_cons h1]; simp [sameL, hs, hs']
  ·rw [List.drop_eq_getElem_cons h1]; simp only [nTs]; omega
theorem ren_some : ∀ (N : Nat) (x : Tm) (n : Int), nT x ≤ N → okN x → ∃ u, Ev (fun k => f5_renamed.f k x.f0 x.f1 x.f2 x.f3 n) (TQ u) ∧ sameT x u = true ∧ nT u = nT x := by
 intro N
 induction N with
 | zero => intro x n h; have := nT_pos x; omega
 | succ N ih =>
  intro x n h ho
  have hn := nT_eq x
  have hih : ∀ a ∈ x.f3, ∀ n, ∃ u, Ev (fun k => f5_renamed.f k a.f0 a.f1 a.f2 a.f3 n) (TQ u) ∧ sameT a u = true ∧ nT u = nT a := fun a ha n => ih a n (by have := nTs_mem ha; omega) (okN_arg ho ha)
  have fin : ∀ m : ByteArray, (x.f1.toList = m.toList ∨ x.f0 = 2 ∨ x.f0 = 3) → ∃ u, Ev (fun k => f5_renamed.j1 k n x.f0 x.f1 x.f2 x.f3 x.f0 m x.f2) (TQ u) ∧ sameT x u = true ∧ nT u = nT x := by
   intro m hm
   obtain ⟨us, he, hs, hnn⟩ := ren_loop x n ho m hih x.f3.length 0 [] (by omega) rfl
   simp only [List.drop_zero, List.nil_append] at he hs hnn
   refine ⟨⟨x.f0, m, x.f2, us⟩, ?_, ?_, ?_⟩
   ·refine Ev.up ?_
    simp only [f5_renamed.j1]
    exact he
   ·rw [sameT_eq]
    simp only [decide_true, Bool.true_and, hs, Bool.and_true, Bool.or_eq_true, decide_eq_true_eq]
    exact hm
   ·rw [hn]; simp only [nT]; omega
  by_cases k : x.f0 = 2 ∨ x.f0 = 3
  ·obtain ⟨q, hq, q0, q1⟩ := cut_some n 4 (by omega) (by omega)
   obtain ⟨u, he, hs⟩ := fin (rdOf ByteArray.empty [⟨#[]⟩, ⟨#[117]⟩, ⟨#[95]⟩, ⟨#[78]⟩] q) (.inr k)
   refine ⟨u, Ev.step (f := fun k => f5_renamed.j0 k n true x.f0 x.f1 x.f2 x.f3 x.f0 x.f1 x.f2) (fun k' => ?_) (Ev.step (f := fun k => f5_renamed.j1 k n x.f0 x.f1 x.f2 x.f3 x.f0 (rdOf ByteArray.empty [⟨#[]⟩, ⟨#[117]⟩, ⟨#[95]⟩, ⟨#[78]⟩] q) x.f2) (fun k' => ?_) he), hs⟩
   ·simp only [f5_renamed.f]
    rcases k with k | k
    ·rw [if_pos k]
    ·rw [if_neg (by omega), k]; rfl
   ·simp only [f5_renamed.j0, ↓reduceIte, Option.bind_some, hq, List.length_cons, List.length_nil, Nat.reduceAdd, Int.cast_ofNat_Int]
    rw [if_pos q0, if_pos q1]
  ·obtain ⟨u, he, hs⟩ := fin x.f1 (.inl rfl)
   have e3 : (x.f0 == 3) = false := by rw [beq_eq_false_iff_ne]; omega
   refine ⟨u, Ev.step (f := fun k => f5_renamed.j0 k n false x.f0 x.f1 x.f2 x.f3 x.f0 x.f1 x.f2) (fun k' => ?_) (Ev.step (f := fun k => f5_renamed.j1 k n x.f0 x.f1 x.f2 x.f3 x.f0 x.f1 x.f2) (fun k' => ?_) he), hs⟩
   ·simp only [f5_renamed.f]
    rw [if_neg (by omega), e3]
   ·simp only [f5_renamed.j0, Bool.false_eq_true, ↓reduceIte]
end Go.Proofs.YtpkkoiljombooaaDoor.G
