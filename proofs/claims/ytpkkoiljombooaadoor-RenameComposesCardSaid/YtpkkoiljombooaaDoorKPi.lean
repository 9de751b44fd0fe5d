import Derived.Test.YtpkkoiljombooaaDoorKG0
import Derived.Test.YtpkkoiljombooaaDoorKPn
import Derived.Test.YtpkkoiljombooaaDoorKIv
set_option linter.unusedVariables false
set_option linter.unusedSimpArgs false
namespace Go.Proofs.YtpkkoiljombooaaDoor.G
open Go.RowKit Go.Proofs.YtpkkoiljombooaaDoorW.PrintWords Go.Proofs.YtpkkoiljombooaaDoorW.PrintLast
theorem rd_get (l : List Int) (x : Int) (h0 : 0 ≤ x) (h1 : x.toNat < l.length) : rd l x = l[x.toNat] := by
 unfold rd
 rw [List.getD_eq_getElem?_getD, List.getElem?_eq_getElem h1]; rfl
structure Pm (p : List Int) : Prop where
 len : p.length = 7
 dis : p.Nodup
 rng : ∀ x ∈ p, 0 ≤ x ∧ x < 7
theorem Pm.new : Pm [0, 1, 2, 3, 4, 5, 6] := ⟨rfl, by decide, by decide⟩
theorem x_ge : ∀ (N : Nat) (t : Tm) (b : Int), nT t ≤ N → 0 ≤ b → b + dT t ≤ 1000000 → Rg t = true → xT (fun x => decide (0 ≤ x)) b t = true := by
 intro N
 induction N with
 | zero => intro t b h; have := nT_pos t; omega
 | succ N ih =>
  intro t b hn h0 h1 hr
  cases t with
  | mk k n i ts =>
   simp only [nT] at hn
   simp only [dT] at h1
   simp only [Rg, Bool.and_eq_true] at hr
   have hL : xL (fun x => decide (0 ≤ x)) k b 0 ts = true := xL_of ts 0 (fun a ha j => by
    have hb := inB_b k b j h0 (by omega)
    have h2 := nTs_mem ha
    have h3 := dTs_mem ha
    exact ih a _ (by omega) (by omega) (by omega) (by have := hr.2; rw [RgL_all, List.all_eq_true] at this; exact this a ha))
   simp only [xT, hL, Bool.and_true, Bool.or_eq_true, Bool.not_eq_true', Bool.and_eq_false_iff, decide_eq_false_iff_not, decide_eq_true_eq]
   by_cases hk : k = 5
   ·by_cases hi : i ≥ b
    ·have hr1 := hr.1
     simp only [hk, decide_true, Bool.not_true, Bool.false_or, Bool.and_eq_true, decide_eq_true_eq] at hr1
     refine .inr ?_
     rw [w64_in (by omega) (by omega)]; omega
    ·exact .inl (.inr hi)
   ·exact .inl (.inl hk)
theorem wf_ge {t : Tm} (h : wfE t = 0) : xT (fun x => decide (0 ≤ x)) 0 t = true := x_ge _ t 0 (Nat.le_refl _) (by omega) (by have := wf_dT h; omega) (wf_rg h)
theorem rn_at (l : List Int) (x : Int) (h1 : x < l.length) : rnF l x = (rd l x, true) := by unfold rnF; rw [if_neg (by omega)]
structure CompOk (t : Tm) (a b c : List Int) : Prop where
 wt : wfE t = 0
 x0 : okM (rnF a) 0 t = true
 wx : wfE (mvT (rnF a) 0 t) = 0
 y0 : okM (rnF b) 0 (mvT (rnF a) 0 t) = true
 z0 : okM (rnF c) 0 t = true
 yz : mvT (rnF b) 0 (mvT (rnF a) 0 t) = mvT (rnF c) 0 t
theorem comp_ok {t : Tm} {a b c : List Int} (h : MA 4 5 2 t) (ha : a.length = 5) (hb : b.length = 5) (hc : c.length = 5) (ra : ∀ x ∈ a, 0 ≤ x ∧ x < 5) (rb : ∀ x ∈ b, 0 ≤ x ∧ x < 9)
  (hcc : ∀ x : Int, 0 ≤ x → x < 5 → rd c x = rd b (rd a x)) : CompOk t a b c := by
 have hw := ma_wf h
 have hx := ma_x h
 have hr := wf_rg hw
 have hd := wf_dT hw
 have ma : ∀ x, 0 ≤ x → x < 5 → 0 ≤ rd a x ∧ rd a x < 5 := fun x h0 h1 => by rw [rd_get _ x h0 (by omega)]; exact ra _ (List.getElem_mem _)
 have mb : ∀ x, 0 ≤ x → x < 5 → 0 ≤ rd b x ∧ rd b x < 9 := fun x h0 h1 => by rw [rd_get _ x h0 (by omega)]; exact rb _ (List.getElem_mem _)
 have ho : okM (rnF a) 0 t = true := ok_of _ (ltX 5) (fun x h0 h2 => by
  simp only [Bool.and_eq_true, decide_eq_true_eq] at h2
  rw [rn_at _ x (by omega)]
  have := ma x h0 h2.2
  exact ⟨rfl, this.1, by dsimp only; omega⟩) _ t 0 (Nat.le_refl _) (by omega) (by omega) hr hx
 have hz : okM (rnF c) 0 t = true := ok_of _ (ltX 5) (fun x h0 h2 => by
  simp only [Bool.and_eq_true, decide_eq_true_eq] at h2
  rw [rn_at _ x (by omega), hcc x h0 h2.2]
  have h3 := ma x h0 h2.2
  have h4 := mb _ h3.1 h3.2
  exact ⟨rfl, h4.1, by dsimp only; omega⟩) _ t 0 (Nat.le_refl _) (by omega) (by omega) hr hx
 have cy := mv_comp (rnF a) (rnF b) (rnF c) (ltX 5) (fun x h0 h2 => by
  simp only [Bool.and_eq_true, decide_eq_true_eq] at h2
  rw [rn_at a x (by omega), rn_at c x (by omega), hcc x h0 h2.2]
  have h3 := ma x h0 h2.2
  refine ⟨h3.1, by dsimp only; omega, ?_⟩
  dsimp only
  rw [rn_at b _ (by omega)]) _ t 0 (Nat.le_refl _) (by omega) (by omega) hr hx
 exact ⟨hw, ho, wf_mv _ hw ho, cy.2.trans hz, hz, cy.1⟩
end Go.Proofs.YtpkkoiljombooaaDoor.G
