import Derived.Test.YtpkkoiljombooaaDoorKG0
import Derived.Test.YtpkkoiljombooaaDoorKMv
import Derived.Test.YtpkkoiljombooaaDoorKMs
import Derived.Test.YtpkkoiljombooaaDoorKH5
import Derived.Test.YtpkkoiljombooaaDoorKPe
set_option linter.unusedVariables false
set_option linter.unusedSimpArgs false
namespace Go.Proofs.YtpkkoiljombooaaDoor.G
open Go.RowKit Go.Proofs.YtpkkoiljombooaaDoorW.PrintWords Go.Proofs.YtpkkoiljombooaaDoorW.PrintLast
theorem inB_eq (k b : Int) (j : Nat) (h0 : 0 ≤ b) (h1 : b ≤ 4000000) : inB k b j = if k = 3 ∨ (k = 2 ∧ j = 1) then b + 1 else b := by
 unfold inB; split
 ·exact w64_in (by omega) (by omega)
 ·rfl
theorem inB_b (k b : Int) (j : Nat) (h0 : 0 ≤ b) (h1 : b ≤ 4000000) : b ≤ inB k b j ∧ inB k b j ≤ b + 1 := by
 rw [inB_eq k b j h0 h1]; split <;> omega
mutual
def Rg : Tm → Bool
 | ⟨k, _, i, ts⟩ => (!(decide (k = 5)) || (decide (0 ≤ i) && decide (i ≤ 1048576))) && RgL ts
def RgL : List Tm → Bool
 | [] => true
 | a :: ts => Rg a && RgL ts
end
theorem RgL_all (ts : List Tm) : RgL ts = ts.all Rg := by
 induction ts with
 | nil => rfl
 | cons a ts ih => simp [RgL, ih]
theorem Rg_eq (t : Tm) : Rg t = ((!(decide (t.f0 = 5)) || (decide (0 ≤ t.f2) && decide (t.f2 ≤ 1048576))) && RgL t.f3) := by cases t; rw [Rg]
mutual
theorem rg_obj : ∀ t : Tm, objB t = true → Rg t = true
 | ⟨k, n, i, ts⟩, h => by
  have hs := rg_objs ts
  simp only [objB] at h
  simp only [Rg, Bool.and_eq_true, Bool.or_eq_true, Bool.not_eq_true', decide_eq_true_eq, decide_eq_false_iff_not]
  split at h
  ·simp only [Bool.and_eq_true] at h; exact ⟨.inl (by omega), hs h.2⟩
  ·split at h
   ·simp only [Bool.and_eq_true] at h; exact ⟨.inl (by omega), hs h.2.2⟩
   ·split at h
    ·simp only [Bool.and_eq_true, decide_eq_true_eq] at h; exact ⟨.inr ⟨h.2.1, h.2.2.1⟩, hs h.2.2.2⟩
    ·split at h
     ·simp only [Bool.and_eq_true] at h; exact ⟨.inl (by omega), hs h.2.2.2⟩
     ·cases h
theorem rg_objs : ∀ ts : List Tm, objsB ts = true → RgL ts = true
 | [], _ => rfl
 | a :: ts, h => by
  simp only [objsB, Bool.and_eq_true] at h
  simp only [RgL, rg_obj a h.1, rg_objs ts h.2, Bool.and_self]
end
theorem rg_atom {t : Tm} (h : atomB t = true) : Rg t = true := by
 unfold atomB at h
 simp only [Bool.and_eq_true, decide_eq_true_eq] at h
 rw [Rg_eq, rg_objs _ h.2.2.2]
 simp; omega
theorem rg_typ : ∀ (N : Nat) (t : Tm), nT t ≤ N → typB t = true → Rg t = true := by
 intro N
 induction N with
 | zero => intro t h; have := nT_pos t; omega
 | succ N ih =>
  intro t hn h
  by_cases h2 : t.f3.length = 2
  ·obtain ⟨a, b, e⟩ := two_of h2
   cases t with
   | mk k n i ts =>
    simp only at e
    subst e
    rw [typB_two] at h
    simp only [nT, nTs] at hn
    simp only [Bool.or_eq_true, Bool.and_eq_true, decide_eq_true_eq] at h
    rcases h with h | ⟨rfl, h1, ha, hb⟩
    ·exact rg_atom h
    ·simp only [Rg, RgL, ih a (by omega) ha, ih b (by omega) hb]
     rfl
  ·rw [typB_other t h2] at h; exact rg_atom h
theorem rg_kind : ∀ (N : Nat) (t : Tm), nT t ≤ N → kindB t = true → Rg t = true := by
 intro N
 induction N with
 | zero => intro t h; have := nT_pos t; omega
 | succ N ih =>
  intro t hn h
  by_cases h2 : t.f3.length = 2
  ·obtain ⟨a, b, e⟩ := two_of h2
   cases t with
   | mk k n i ts =>
    simp only at e
    subst e
    rw [kindB_two] at h
    simp only [nT, nTs] at hn
    simp only [Bool.and_eq_true, decide_eq_true_eq] at h
    obtain ⟨rfl, h1, ha, hb⟩ := h
    simp only [Rg, RgL, rg_typ _ a (Nat.le_refl _) ha, ih b (by omega) hb]
    rfl
  ·rw [kindB_other t h2] at h
   simp only [Bool.and_eq_true, decide_eq_true_eq] at h
   have e : t.f3 = [] := List.length_eq_zero_iff.1 (by omega)
   rw [Rg_eq, e, h.1]; rfl
theorem wf_sort {t : Tm} (h : wfE t = 0) : sortB t = true ∧ smallB t = true := by
 unfold wfE at h
 split at h
 ·next h1 =>
  split at h
  ·next h2 => exact ⟨h1, h2⟩
  ·omega
 ·omega
theorem wf_both {t : Tm} (h1 : sortB t = true) (h2 : smallB t = true) : wfE t = 0 := by unfold wfE; rw [h1, h2]; rfl
theorem wf_rg {t : Tm} (h : wfE t = 0) : Rg t = true := by
 have h := (wf_sort h).1
 unfold sortB at h
 simp only [Bool.or_eq_true] at h
 rcases h with h | h | h
 ·exact rg_obj t h
 ·exact rg_typ _ t (Nat.le_refl _) h
 ·exact rg_kind _ t (Nat.le_refl _) h
theorem wf_dT {t : Tm} (h : wfE t = 0) : dT t ≤ 128 ∧ nT t ≤ 4096 := by
 have h := (wf_sort h).2
 unfold smallB at h
 simp only [Bool.and_eq_true, decide_eq_true_eq] at h
 omega
section
variable (F : Int → Int × Bool)
mutual
theorem nT_mv : ∀ (t : Tm) (b : Int), nT (mvT F b t) = nT t
 | ⟨k, n, i, ts⟩, b => by simp only [mvT, nT, nTs_mv ts k b 0]
theorem nTs_mv : ∀ (ts : List Tm) (k b : Int) (j : Nat), nTs (mvL F k b j ts) = nTs ts
 | [], _, _, _ => rfl
 | a :: ts, k, b, j => by simp only [mvL, nTs, nT_mv a _, nTs_mv ts k b (j + 1)]
end
mutual
theorem dT_mv : ∀ (t : Tm) (b : Int), dT (mvT F b t) = dT t
 | ⟨k, n, i, ts⟩, b => by simp only [mvT, dT, dTs_mv ts k b 0]
theorem dTs_mv : ∀ (ts : List Tm) (k b : Int) (j : Nat), dTs (mvL F k b j ts) = dTs ts
 | [], _, _, _ => rfl
 | a :: ts, k, b, j => by simp only [mvL, dTs, dT_mv a _, dTs_mv ts k b (j + 1)]
end
theorem mvI_not {b k i : Int} (h : k ≠ 5) : mvI F b k i = i := by unfold mvI; rw [if_neg (fun h' => h h'.1)]
theorem mvI_range {b k i : Int} (hb : 0 ≤ b) (hb1 : b ≤ 1000000) (hk : k = 5) (h0 : 0 ≤ i) (h1 : i ≤ 1048576) (ho : mvB F b k i = true) : 0 ≤ mvI F b k i ∧ mvI F b k i ≤ 1048576 := by
 unfold mvI
 split
 ·next hc =>
  unfold mvB at ho
  rw [if_pos hc] at ho
  simp only [Bool.and_eq_true, decide_eq_true_eq] at ho
  obtain ⟨_, h2, h3⟩ := ho
  rw [w64_in (n := 1048576 - b) (by omega) (by omega)] at h3
  rw [w64_in (by omega) (by omega)]
  omega
 ·exact ⟨h0, h1⟩
mutual
theorem obj_mv : ∀ (t : Tm) (b : Int), 0 ≤ b → b + dT t ≤ 1000000 → okM F b t = true → objB t = true → objB (mvT F b t) = true
 | ⟨k, n, i, ts⟩, b, h0, h1, ho, h => by
  simp only [okM, Bool.and_eq_true] at ho
  simp only [dT] at h1
  have hs := objs_mv ts k b 0 h0 (by omega) ho.2
  simp only [objB] at h
  simp only [mvT, objB]
  split at h
  ·next hk =>
   simp only [hk, if_true]
   rw [hk, Bool.and_eq_true] at h
   rw [hk] at hs
   simp only [Bool.and_eq_true, boundB, decide_eq_true_eq, mvL_len, mvI_not F (b := b) (i := i) (k := 3) (by omega)] at h ⊢
   exact ⟨h.1, hs h.2⟩
  ·next hk3 =>
   rw [if_neg hk3]
   split at h
   ·next hk =>
    simp only [hk, if_true]
    rw [hk] at hs
    simp only [Bool.and_eq_true, decide_eq_true_eq, mvI_not F (b := b) (i := i) (k := 4) (by omega)] at h ⊢
    exact ⟨h.1, h.2.1, hs h.2.2⟩
   ·next hk4 =>
    rw [if_neg hk4]
    split at h
    ·next hk =>
     have hr := fun a b' => mvI_range F h0 (by omega) hk a b' ho.1
     simp only [if_pos hk]
     simp only [Bool.and_eq_true, decide_eq_true_eq] at h ⊢
     have := hr h.2.1 h.2.2.1
     exact ⟨h.1, this.1, this.2, hs h.2.2.2⟩
    ·next hk5 =>
     rw [if_neg hk5]
     split at h
     ·next hk =>
      simp only [hk, if_true]
      rw [hk] at hs
      simp only [Bool.and_eq_true, decide_eq_true_eq, mvI_not F (b := b) (i := i) (k := 6) (by omega)] at h ⊢
      exact ⟨h.1, h.2.1, h.2.2.1, hs h.2.2.2⟩
     ·cases h
theorem objs_mv : ∀ (ts : List Tm) (k b : Int) (j : Nat), 0 ≤ b → b + dTs ts + 1 ≤ 1000000 → okL F k b j ts = true → objsB ts = true → objsB (mvL F k b j ts) = true
 | [], _, _, _, _, _, _, _ => rfl
 | a :: ts, k, b, j, h0, h1, ho, h => by
  simp only [okL, Bool.and_eq_true] at ho
  simp only [dTs] at h1
  simp only [objsB, Bool.and_eq_true] at h
  have hb := inB_b k b j h0 (by omega)
  simp only [mvL, objsB, Bool.and_eq_true]
  exact ⟨obj_mv a _ (by omega) (by omega) ho.1 h.1, objs_mv ts k b (j + 1) h0 (by omega) ho.2 h.2⟩
end
theorem atom_mv {t : Tm} {b : Int} (h0 : 0 ≤ b) (h1 : b + dT t ≤ 1000000) (ho : okM F b t = true) (h : atomB t = true) : atomB (mvT F b t) = true := by
 cases t with
 | mk k n i ts =>
  simp only [okM, Bool.and_eq_true] at ho
  simp only [dT] at h1
  have hs := objs_mv F ts k b 0 h0 (by omega) ho.2
  unfold atomB at h ⊢
  simp only [Bool.and_eq_true, decide_eq_true_eq] at h
  simp only [mvT, Bool.and_eq_true, decide_eq_true_eq]
  refine ⟨decide_eq_true h.1, h.2.1, decide_eq_true ?_, hs h.2.2.2⟩
  show mvI F b k i = 0
  rw [mvI_not F (by omega)]; exact h.2.2.1
theorem typ_mv : ∀ (N : Nat) (t : Tm) (b : Int), nT t ≤ N → 0 ≤ b → b + dT t ≤ 1000000 → okM F b t = true → typB t = true → typB (mvT F b t) = true := by
 intro N
 induction N with
 | zero => intro t b h; have := nT_pos t; omega
 | succ N ih =>
  intro t b hn h0 h1 ho h
  by_cases h2 : t.f3.length = 2
  ·obtain ⟨x, y, e⟩ := two_of h2
   cases t with
   | mk k n i ts =>
    simp only at e
    subst e
    rw [typB_two] at h
    simp only [nT, nTs] at hn
    by_cases ha : atomB ⟨k, n, i, [x, y]⟩ = true
    ·have := atom_mv F h0 h1 ho ha
     simp only [mvT, mvL] at this ⊢
     rw [typB_two, this]
     rfl
    ·simp only [Bool.or_eq_true, Bool.and_eq_true, decide_eq_true_eq] at h
     obtain ⟨rfl, hb, hx, hy⟩ := h.resolve_left ha
     simp only [okM, okL, Bool.and_eq_true] at ho
     simp only [dT, dTs] at h1
     have b0 := inB_b 2 b 0 h0 (by omega)
     have b1 := inB_b 2 b (0 + 1) h0 (by omega)
     simp only [mvT, mvL]
     rw [typB_two, ih x _ (by omega) (by omega) (by omega) ho.2.1 hx, ih y _ (by omega) (by omega) (by omega) ho.2.2.1 hy]
     simp only [boundB, Bool.and_eq_true, decide_eq_true_eq, mvI_not F (b := b) (i := i) (k := 2) (by omega)] at hb ⊢
     simp [hb.1, hb.2.2]
  ·rw [typB_other t h2] at h
   rw [typB_other _ (by cases t; simp only [mvT, mvL_len]; exact h2)]
   exact atom_mv F h0 h1 ho h
theorem kind_mv : ∀ (N : Nat) (t : Tm) (b : Int), nT t ≤ N → 0 ≤ b → b + dT t ≤ 1000000 → okM F b t = true → kindB t = true → kindB (mvT F b t) = true := by
 intro N
 induction N with
 | zero => intro t b h; have := nT_pos t; omega
 | succ N ih =>
  intro t b hn h0 h1 ho h
  by_cases h2 : t.f3.length = 2
  ·obtain ⟨x, y, e⟩ := two_of h2
   cases t with
   | mk k n i ts =>
    simp only at e
    subst e
    rw [kindB_two] at h
    simp only [nT, nTs] at hn
    simp only [Bool.and_eq_true, decide_eq_true_eq] at h
    obtain ⟨rfl, hb, hx, hy⟩ := h
    simp only [okM, okL, Bool.and_eq_true] at ho
    simp only [dT, dTs] at h1
    have b0 := inB_b 2 b 0 h0 (by omega)
    have b1 := inB_b 2 b (0 + 1) h0 (by omega)
    simp only [mvT, mvL]
    rw [kindB_two, typ_mv F _ x _ (Nat.le_refl _) (by omega) (by omega) ho.2.1 hx, ih y _ (by omega) (by omega) (by omega) ho.2.2.1 hy]
    simp only [boundB, Bool.and_eq_true, decide_eq_true_eq, mvI_not F (b := b) (i := i) (k := 2) (by omega)] at hb ⊢
    simp [hb.1, hb.2.2]
  ·rw [kindB_other t h2] at h
   rw [kindB_other _ (by cases t; simp only [mvT, mvL_len]; exact h2)]
   cases t with
   | mk k n i ts =>
    simp only [Bool.and_eq_true, decide_eq_true_eq] at h
    simp only [Bool.and_eq_true]
    refine ⟨decide_eq_true h.1, decide_eq_true h.2.1, decide_eq_true ?_, decide_eq_true ?_⟩
    ·show mvI F b k i = 0
     rw [mvI_not F (by omega)]; exact h.2.2.1
    ·show (mvL F k b 0 ts).length = 0
     rw [mvL_len]; exact h.2.2.2
theorem wf_mv {t : Tm} (h : wfE t = 0) (ho : okM F 0 t = true) : wfE (mvT F 0 t) = 0 := by
 have hd := wf_dT h
 obtain ⟨h1, h2⟩ := wf_sort h
 refine wf_both ?_ ?_
 ·unfold sortB at h1 ⊢
  simp only [Bool.or_eq_true] at h1 ⊢
  rcases h1 with h1 | h1 | h1
  ·exact .inl (obj_mv F t 0 (by omega) (by omega) ho h1)
  ·exact .inr (.inl (typ_mv F _ t 0 (Nat.le_refl _) (by omega) (by omega) ho h1))
  ·exact .inr (.inr (kind_mv F _ t 0 (Nat.le_refl _) (by omega) (by omega) ho h1))
 ·unfold smallB at h2 ⊢
  rw [nT_mv, dT_mv]; exact h2
end
theorem mv_comp (F G H : Int → Int × Bool) (X : Int → Bool) (hX : ∀ x, 0 ≤ x → X x = true → 0 ≤ (F x).1 ∧ (F x).1 ≤ 1048576 ∧ G (F x).1 = H x) :
  ∀ (N : Nat) (t : Tm) (b : Int), nT t ≤ N → 0 ≤ b → b + dT t ≤ 1000000 → Rg t = true → xT X b t = true → mvT G b (mvT F b t) = mvT H b t ∧ okM G b (mvT F b t) = okM H b t := by
 intro N
 induction N with
 | zero => intro t b h; have := nT_pos t; omega
 | succ N ih =>
  intro t b hn h0 h1 hr hx
  cases t with
  | mk k n i ts =>
   simp only [nT] at hn
   simp only [dT] at h1
   simp only [Rg, Bool.and_eq_true] at hr
   simp only [xT, Bool.and_eq_true] at hx
   have hL : ∀ (us : List Tm) (j : Nat), nTs us ≤ nTs ts → dTs us ≤ dTs ts → RgL us = true → xL X k b j us = true → mvL G k b j (mvL F k b j us) = mvL H k b j us ∧ okL G k b j (mvL F k b j us) = okL H k b j us := by
    intro us
    induction us with
    | nil => intro j _ _ _ _; exact ⟨rfl, rfl⟩
    | cons a r ih2 =>
     intro j hn' hd' hr' hx'
     simp only [nTs] at hn'
     simp only [dTs] at hd'
     simp only [RgL, Bool.and_eq_true] at hr'
     simp only [xL, Bool.and_eq_true] at hx'
     have hb := inB_b k b j h0 (by omega)
     obtain ⟨e1, e2⟩ := ih a (inB k b j) (by omega) (by omega) (by omega) hr'.1 hx'.1
     obtain ⟨e3, e4⟩ := ih2 (j + 1) (by omega) (by omega) hr'.2 hx'.2
     simp only [mvL, okL, e1, e2, e3, e4]
     trivial
   obtain ⟨e1, e2⟩ := hL ts 0 (Nat.le_refl _) (Nat.le_refl _) hr.2 hx.2
   have hI : mvI G b k (mvI F b k i) = mvI H b k i ∧ mvB G b k (mvI F b k i) = mvB H b k i := by
    by_cases hc : k = 5 ∧ i ≥ b
    ·obtain ⟨hk, hi⟩ := hc
     have hr1 := hr.1;have hx1 := hx.1
     simp only [hk, hi, decide_true, Bool.not_true, Bool.false_or, Bool.and_eq_true, decide_eq_true_eq, Bool.and_self, ge_iff_le] at hr1 hx1
     rw [w64_in (n := i - b) (by omega) (by omega)] at hx1
     obtain ⟨q0, q1, q2⟩ := hX (i - b) (by omega) hx1
     have e : mvI F b k i = (F (i - b)).1 + b := by
      unfold mvI
      rw [if_pos ⟨hk, hi⟩, w64_in (n := i - b) (by omega) (by omega), w64_in (by omega) (by omega)]
     rw [e]
     have e' : wrap64 ((F (i - b)).1 + b - b) = (F (i - b)).1 := by rw [w64_in (by omega) (by omega)]; omega
     have e'' : wrap64 (i - b) = i - b := w64_in (by omega) (by omega)
     unfold mvI mvB
     rw [if_pos ⟨hk, by omega⟩, if_pos ⟨hk, hi⟩, if_pos ⟨hk, by omega⟩, if_pos ⟨hk, hi⟩, e', e'', q2]
     exact ⟨rfl, rfl⟩
    ·have e : mvI F b k i = i := by unfold mvI; rw [if_neg hc]
     rw [e]
     unfold mvI mvB
     rw [if_neg hc, if_neg hc, if_neg hc, if_neg hc]
     exact ⟨rfl, rfl⟩
   simp only [mvT, okM, hI.1, hI.2, e1, e2]
   trivial
theorem ok_of (F : Int → Int × Bool) (X : Int → Bool) (hX : ∀ x, 0 ≤ x → X x = true → (F x).2 = true ∧ 0 ≤ (F x).1 ∧ (F x).1 ≤ 1000000) :
  ∀ (N : Nat) (t : Tm) (b : Int), nT t ≤ N → 0 ≤ b → b + dT t ≤ 40000 → Rg t = true → xT X b t = true → okM F b t = true := by
 intro N
 induction N with
 | zero => intro t b h; have := nT_pos t; omega
 | succ N ih =>
  intro t b hn h0 h1 hr hx
  cases t with
  | mk k n i ts =>
   simp only [nT] at hn
   simp only [dT] at h1
   simp only [Rg, Bool.and_eq_true] at hr
   simp only [xT, Bool.and_eq_true] at hx
   have hL : ∀ (us : List Tm) (j : Nat), nTs us ≤ nTs ts → dTs us ≤ dTs ts → RgL us = true → xL X k b j us = true → okL F k b j us = true := by
    intro us
    induction us with
    | nil => intro j _ _ _ _; rfl
    | cons a r ih2 =>
     intro j hn' hd' hr' hx'
     simp only [nTs] at hn'
     simp only [dTs] at hd'
     simp only [RgL, Bool.and_eq_true] at hr'
     simp only [xL, Bool.and_eq_true] at hx'
     have hb := inB_b k b j h0 (by omega)
     have e1 := ih a (inB k b j) (by omega) (by omega) (by omega) hr'.1 hx'.1
     have e3 := ih2 (j + 1) (by omega) (by omega) hr'.2 hx'.2
     simp only [okL, e1, e3, Bool.and_self]
   have e1 := hL ts 0 (Nat.le_refl _) (Nat.le_refl _) hr.2 hx.2
   have hI : mvB F b k i = true := by
    by_cases hc : k = 5 ∧ i ≥ b
    ·obtain ⟨hk, hi⟩ := hc
     have hr1 := hr.1;have hx1 := hx.1
     simp only [hk, hi, decide_true, Bool.not_true, Bool.false_or, Bool.and_eq_true, decide_eq_true_eq, Bool.and_self, ge_iff_le] at hr1 hx1
     rw [w64_in (n := i - b) (by omega) (by omega)] at hx1
     obtain ⟨q1, q2, q3⟩ := hX (i - b) (by omega) hx1
     unfold mvB
     rw [if_pos ⟨hk, hi⟩, w64_in (n := i - b) (by omega) (by omega), q1, w64_in (n := 1048576 - b) (by omega) (by omega)]
     simp only [Bool.true_and, Bool.and_eq_true, decide_eq_true_eq]
     omega
    ·unfold mvB
     rw [if_neg hc]
   simp only [okM, hI, e1, Bool.and_self]
theorem xL_of {X : Int → Bool} {k b : Int} : ∀ (ts : List Tm) (j : Nat), (∀ a ∈ ts, ∀ i, xT X (inB k b i) a = true) → xL X k b j ts = true
 | [], _, _ => rfl
 | a :: ts, j, h => by
  simp only [xL, h a (by simp) j, xL_of ts (j + 1) (fun a' h' => h a' (by simp [h'])), Bool.and_self]
abbrev ltX (u : Int) : Int → Bool := fun x => decide (0 ≤ x) && decide (x < u)
theorem mt_x {d v m : Int} {t : Tm} (h : MT d v m t) : ∀ b u : Int, 0 ≤ b → b + max d 0 ≤ 1000 → v + max d 0 ≤ 1000 → v ≤ b + u → xT (ltX u) b t = true := by
 induction h with
 | @lam d v m n a hd1 hn ha ih =>
  intro b u h0 h1 h2 h3
  have hb := inB_eq 3 b 0 h0 (by omega)
  simp only [true_or, if_true] at hb
  simp only [xT, xL, hb, ih (b + 1) u (by omega) (by omega) (by omega) (by omega)]
  rfl
 | @app d v m k n i ts hk hl h0 ht ih =>
  intro b u hb h1 h2 h3
  have hk3 : ¬ (k = 3) := by rcases hk with ⟨rfl, _⟩ | ⟨rfl, _⟩ | ⟨rfl, _⟩ <;> omega
  have hk2 : ¬ (k = 2) := by rcases hk with ⟨rfl, _⟩ | ⟨rfl, _⟩ | ⟨rfl, _⟩ <;> omega
  have hL : xL (ltX u) k b 0 ts = true := xL_of ts 0 (fun a ha j => by
   rw [inB_eq k b j hb (by omega), if_neg (by simp [hk3, hk2])]
   have hd1 := h0 (fun e => by rw [e] at ha; cases ha)
   exact ih a ha b u hb (by omega) (by omega) h3)
  simp only [xT, hL, Bool.and_true, Bool.or_eq_true, Bool.not_eq_true', Bool.and_eq_false_iff, decide_eq_false_iff_not]
  rcases hk with ⟨rfl, _⟩ | ⟨rfl, _, hi0, hi1⟩ | ⟨rfl, _⟩
  ·exact .inl (.inl (by omega))
  ·by_cases hi : i ≥ b
   ·refine .inr ?_
    rw [w64_in (by omega) (by omega)]
    simp only [Bool.and_eq_true, decide_eq_true_eq]
    omega
   ·exact .inl (.inr hi)
  ·exact .inl (.inl (by omega))
theorem my_x {d v m : Int} {t : Tm} (h : MY d v m t) : ∀ b u : Int, 0 ≤ b → b + max d 0 ≤ 1000 → v + max d 0 ≤ 1000 → v ≤ b + u → xT (ltX u) b t = true := by
 induction h with
 | @pi d v m n a b' hd1 hn ha hb ih1 ih2 =>
  intro b u h0 h1 h2 h3
  have hb0 := inB_eq 2 b 0 h0 (by omega)
  have hb1 := inB_eq 2 b 1 h0 (by omega)
  simp at hb0 hb1
  simp only [xT, xL, Nat.zero_add, hb0, hb1, ih1 b u (by omega) (by omega) (by omega) (by omega), ih2 (b + 1) u (by omega) (by omega) (by omega) (by omega)]
  rfl
 | @con d v m n ts hn hl h0 ht =>
  intro b u hb h1 h2 h3
  have hL : xL (ltX u) 4 b 0 ts = true := xL_of ts 0 (fun a ha j => by
   rw [inB_eq 4 b j hb (by omega), if_neg (by simp)]
   have hd1 := h0 (fun e => by rw [e] at ha; cases ha)
   exact mt_x (ht a ha) b u hb (by omega) (by omega) h3)
  simp only [xT, hL]
  rfl
theorem mk_x {d : Int} {c : Nat} {t : Tm} (h : MK d c t) : ∀ b u : Int, d ≤ 100 → 0 ≤ b → b + max d 0 + c ≤ 1000 → 0 ≤ u → xT (ltX u) b t = true := by
 induction h with
 | sort => intro b u _ _ _ _; rfl
 | @pi c a b' ha hb ih =>
  intro b u hd h0 h1 hu
  have hb0 := inB_eq 2 b 0 h0 (by omega)
  have hb1 := inB_eq 2 b 1 h0 (by omega)
  simp at hb0 hb1
  simp only [xT, xL, Nat.zero_add, hb0, hb1, my_x ha b u (by omega) (by omega) (by omega) (by omega), ih (b + 1) u hd (by omega) (by omega) hu]
  rfl
theorem fname_ok {n : ByteArray} (h : n ∈ ([⟨#[110, 97, 116]⟩, ⟨#[118, 101, 99]⟩, ⟨#[116, 109]⟩] : List ByteArray)) : isNameB n = true := by
 simp only [List.mem_cons, List.not_mem_nil, or_false] at h
 rcases h with rfl | rfl | rfl <;> kernel_rfl
theorem my_typ {d v m : Int} {t : Tm} (h : MY d v m t) (hd : v + d ≤ 1000) (hd0 : v ≤ 1000) (hm : m ≤ 1000) : typB t = true := by
 induction h with
 | @pi d v m n a b hd1 hn ha hb ih1 ih2 =>
  rw [typB_two, ih1 (by omega) (by omega) hm, ih2 (by omega) (by omega) hm]
  have : boundB ⟨2, n, 0, [a, b]⟩ 2 = true := by simp [boundB, binder_ok hn]
  rw [this]
  simp
 | @con d v m n ts hn hl h0 ht =>
  have hobs : objsB ts = true := objsB_of (fun a ha => by
   have hd1 := h0 (fun e => by rw [e] at ha; cases ha)
   exact mt_obj (ht a ha) (by omega) (by omega) hm)
  have ha : atomB ⟨4, n, 0, ts⟩ = true := by simp [atomB, fname_ok hn, hobs]
  by_cases h2 : ts.length = 2
  ·obtain ⟨x, y, rfl⟩ := two_of h2
   rw [typB_two, ha]; rfl
  ·rw [typB_other _ h2, ha]
theorem mk_kind {d : Int} {c : Nat} {t : Tm} (h : MK d c t) (hd : d ≤ 100) : kindB t = true := by
 induction h with
 | sort => kernel_rfl
 | @pi c a b ha hb ih =>
  rw [kindB_two, my_typ ha (by omega) (by omega) (by omega), ih]
  have : boundB ⟨2, ⟨#[]⟩, 0, [a, b]⟩ 2 = true := by
   simp [boundB]
   exact binder_ok (by simp [namesL])
  rw [this]
  simp
theorem ma_wf {t : Tm} (h : MA 4 5 2 t) : wfE t = 0 := by
 have hs := ma_size h
 have hd := dT_le_nT _ t (Nat.le_refl _)
 refine wf_both ?_ ?_
 ·unfold sortB
  simp only [Bool.or_eq_true]
  rcases h with h | h | h
  ·exact .inr (.inl (my_typ h (by omega) (by omega) (by omega)))
  ·exact .inr (.inr (mk_kind h (by omega)))
  ·exact .inl (mt_obj h (by omega) (by omega) (by omega))
 ·unfold smallB; simp only [Bool.and_eq_true, decide_eq_true_eq]; omega
theorem ma_x {t : Tm} (h : MA 4 5 2 t) : xT (ltX 5) 0 t = true := by
 rcases h with h | h | h
 ·exact my_x h 0 5 (by omega) (by omega) (by omega) (by omega)
 ·exact mk_x h 0 5 (by omega) (by omega) (by omega) (by omega)
 ·exact mt_x h 0 5 (by omega) (by omega) (by omega) (by omega)
end Go.Proofs.YtpkkoiljombooaaDoor.G
