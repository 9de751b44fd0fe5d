import Derived.Test.YtpkkoiljombooaaDoorKG0
import Derived.Test.YtpkkoiljombooaaDoorKG13
import Derived.Test.YtpkkoiljombooaaDoorKH5
set_option linter.unusedVariables false
set_option linter.unusedSimpArgs false
namespace Go.Proofs.YtpkkoiljombooaaDoor.G
open Go.RowKit Go.Proofs.YtpkkoiljombooaaDoorW.PrintWords Go.Proofs.YtpkkoiljombooaaDoorW.PrintLast
theorem same_refl : ∀ (N : Nat) (x : Tm), nT x ≤ N → sameT x x = true := by
 intro N
 induction N with
 | zero => intro x h; have := nT_pos x; omega
 | succ N ih =>
  intro x h
  rw [nT_eq] at h
  have hl : ∀ ts : List Tm, nTs ts ≤ N → sameL ts ts = true := by
   intro ts
   induction ts with
   | nil => intro _; simp [sameL]
   | cons a r ih2 =>
    intro h2
    simp only [nTs] at h2
    simp only [sameL, Bool.and_eq_true]
    exact ⟨ih a (by omega), ih2 (by omega)⟩
  rw [sameT_eq, hl x.f3 (by omega)]
  simp
theorem sameL_drop {a b : List Tm} (j : Nat) (h1 : j < a.length) (h2 : j < b.length) : sameL (a.drop j) (b.drop j) = (sameT a[j] b[j] && sameL (a.drop (j + 1)) (b.drop (j + 1))) := by
 rw [List.drop_eq_getElem_cons h1, List.drop_eq_getElem_cons h2]
 simp [sameL]
theorem rsame_loop (x y : Tm) (hx : okN x) (hl : x.f3.length = y.f3.length)
  (ih : ∀ a ∈ x.f3, ∀ b ∈ y.f3, Ev (fun k => r5_Same.f k a.f0 a.f1 a.f2 a.f3 b.f0 b.f1 b.f2 b.f3) (sameT a b)) :
  ∀ (c j : Nat), j + c = x.f3.length → Ev (fun k => r5_Same.l0 k (j : Int) x.f0 x.f1 x.f2 x.f3 y.f0 y.f1 y.f2 y.f3) (sameL (x.f3.drop j) (y.f3.drop j)) := by
 have hlen := nTs_len x.f3
 have hn := nT_eq x
 have hok : nT x ≤ 1000000 := hx
 intro c
 induction c with
 | zero =>
  intro j hj
  rw [List.drop_eq_nil_of_le (by omega), List.drop_eq_nil_of_le (by omega)]
  refine Ev.up ?_
  simp only [r5_Same.l0, sameL]
  refine Ev.neg (by omega) ?_
  exact Ev.now _
 | succ c ihc =>
  intro j hj
  have h1 : j < x.f3.length := by omega
  have h2 : j < y.f3.length := by omega
  rw [sameL_drop j h1 h2]
  refine Ev.up ?_
  simp only [r5_Same.l0]
  refine Ev.pos (by omega) (Ev.pos (by omega) (Ev.pos (by omega) ?_))
  rw [rd_at x.f3 j h1, rd_at y.f3 j h2, show wrap64 ((j : Int) + 1) = ((j + 1 : Nat) : Int) by rw [w64_in (by omega) (by omega)]; omega]
  refine Ev.bind (ih _ (List.getElem_mem _) _ (List.getElem_mem _)) ?_
  cases hs : sameT x.f3[j] y.f3[j]
  ·exact Ev.now _
  ·simp only [Bool.true_and]
   exact ihc (j + 1) (by omega)
theorem rsame_j1 {x y : Tm} (h : Ev (fun k => r5_Same.l0 k 0 x.f0 x.f1 x.f2 x.f3 y.f0 y.f1 y.f2 y.f3) (sameL x.f3 y.f3)) (b : Bool) :
  Ev (fun k => r5_Same.j1 k b x.f0 x.f1 x.f2 x.f3 y.f0 y.f1 y.f2 y.f3) (!b && sameL x.f3 y.f3) := by
 refine Ev.up ?_
 simp only [r5_Same.j1]
 cases b
 ·exact h
 ·exact Ev.now _
theorem rsame_ev : ∀ (N : Nat) (x y : Tm), nT x ≤ N → okN x → Ev (fun k => r5_Same.f k x.f0 x.f1 x.f2 x.f3 y.f0 y.f1 y.f2 y.f3) (sameT x y) := by
 intro N
 induction N with
 | zero => intro x y h; have := nT_pos x; omega
 | succ N ih =>
  intro x y h ho
  have hn := nT_eq x
  have no : ∀ r : Bool, r = false → Ev (fun k => r5_Same.j0 k true x.f0 x.f1 x.f2 x.f3 y.f0 y.f1 y.f2 y.f3) r := by
   intro r hr
   subst hr
   refine Ev.up ?_
   simp only [r5_Same.j0, if_true]
   exact Ev.now _
  refine Ev.up ?_
  simp only [r5_Same.f]
  rw [sameT_eq]
  by_cases h0 : x.f0 = y.f0
  ·refine Ev.pos h0 ?_
   rw [decide_eq_true h0, Bool.true_and]
   by_cases h2 : x.f2 = y.f2
   ·refine Ev.pos h2 ?_
    rw [decide_eq_true h2, Bool.true_and]
    by_cases hl : x.f3.length = y.f3.length
    ·have hb : ((x.f3.length : Int) != (y.f3.length : Int)) = false := by rw [hl]; simp
     rw [hb]
     have hloop := rsame_loop x y ho hl (fun a ha b hb => ih a b (by have := nTs_mem ha; omega) (okN_arg ho ha)) x.f3.length 0 (by omega)
     simp only [List.drop_zero] at hloop
     refine Ev.up ?_
     simp only [r5_Same.j0, Bool.false_eq_true, ↓reduceIte]
     by_cases k2 : x.f0 = 2
     ·refine Ev.pos k2 ?_
      rw [decide_eq_true k2]
      have := rsame_j1 hloop false
      simpa using this
     ·refine Ev.neg k2 ?_
      rw [decide_eq_false k2]
      by_cases k3 : x.f0 = 3
      ·refine Ev.pos k3 ?_
       rw [decide_eq_true k3]
       have := rsame_j1 hloop false
       simpa using this
      ·refine Ev.neg k3 ?_
       rw [decide_eq_false k3]
       have := rsame_j1 hloop (x.f1.toList != y.f1.toList)
       have e : (!(x.f1.toList != y.f1.toList)) = decide (x.f1.toList = y.f1.toList) := by
        rw [Bool.eq_iff_iff]; simp
       rw [e] at this
       simpa using this
    ·have hb : ((x.f3.length : Int) != (y.f3.length : Int)) = true := by
      rw [bne_iff_ne]; omega
     rw [hb]
     exact no _ (by rw [sameL_len hl]; simp)
   ·refine Ev.neg h2 ?_
    exact no _ (by rw [decide_eq_false h2]; rfl)
  ·refine Ev.neg h0 ?_
   exact no _ (by rw [decide_eq_false h0]; rfl)
end Go.Proofs.YtpkkoiljombooaaDoor.G
