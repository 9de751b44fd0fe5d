import Derived.Test.YtpkkoiljombooaaDoorKG0
import Derived.Test.YtpkkoiljombooaaDoorKPn
import Derived.Test.YtpkkoiljombooaaDoorKIv
set_option linter.unusedVariables false
set_option linter.unusedSimpArgs false
namespace Go.Proofs.YtpkkoiljombooaaDoor.G
open Go.RowKit Go.Proofs.YtpkkoiljombooaaDoorW.PrintWords Go.Proofs.YtpkkoiljombooaaDoorW.PrintLast
theorem rd_get (l : List Int) (x : Int) (h0 : 0 ≤ x) (h1 : x.toNat < l.length) : rd l x = l[x.toNat] := by
 unfold rd
 rw [List.getD_eq_getElem?_getD, List.getElem?_eq_getElem h1]; rfl
theorem inv_some : ∀ (r : List Int) (i : Nat) (out : List Int), out.length = 7 → (∀ x ∈ r, 0 ≤ x ∧ x < 7) → r.Nodup → (∀ x ∈ r, rd out x < 0) →
  ∃ u, invL 7 r i out = some u ∧ u.length = 7 ∧ (∀ (j : Nat) (h : j < r.length), rd u r[j] = (i : Int) + j) ∧ (∀ y, 0 ≤ y → y < 7 → y ∉ r → rd u y = rd out y)
 | [], i, out, hl, _, _, _ => ⟨out, rfl, hl, fun j h => absurd h (by simp), fun _ _ _ _ => rfl⟩
 | x :: r, i, out, hl, hr, hn, ho => by
  have hx := hr x (by simp)
  have hox := ho x (by simp)
  rw [List.nodup_cons] at hn
  have hset : ∀ y, 0 ≤ y → y < 7 → rd (out.set x.toNat i) y = if y = x then (i : Int) else rd out y := by
   intro y h0 h1
   rw [rd_get _ y h0 (by rw [List.length_set]; omega), List.getElem_set]
   by_cases e : y = x
   ·subst e; simp
   ·rw [if_neg (by omega), if_neg e, rd_get out y h0 (by omega)]
  obtain ⟨u, e, hu, h1, h2⟩ := inv_some r (i + 1) (out.set x.toNat i) (by rw [List.length_set]; exact hl) (fun y hy => hr y (by simp [hy])) hn.2 (fun y hy => by
   have := hr y (by simp [hy])
   rw [hset y this.1 this.2, if_neg (fun (e : y = x) => hn.1 (e ▸ hy))]
   exact ho y (by simp [hy]))
  refine ⟨u, ?_, hu, ?_, ?_⟩
  ·rw [invL, if_neg (by omega), if_neg (by omega)]
   exact e
  ·intro j hj
   cases j with
   | zero =>
    show rd u x = _
    rw [h2 x hx.1 hx.2 hn.1, hset x hx.1 hx.2, if_pos rfl]; simp
   | succ j =>
    have hj' : j < r.length := by simpa using hj
    show rd u r[j] = _
    rw [h1 j hj']; omega
  ·intro y h0 h1' hy
   rw [h2 y h0 h1' (fun h => hy (by simp [h])), hset y h0 h1', if_neg (fun e => hy (by simp [e]))]
structure Pm (p : List Int) : Prop where
 len : p.length = 7
 dis : p.Nodup
 rng : ∀ x ∈ p, 0 ≤ x ∧ x < 7
theorem Pm.new : Pm [0, 1, 2, 3, 4, 5, 6] := ⟨rfl, by decide, by decide⟩
theorem Pm.swap {p : List Int} (h : Pm p) {i k : Nat} (hi : i < p.length) (hk : k < p.length) : Pm ((p.set i p[k]).set k p[i]) := by
 have hp := List.set_set_perm hi hk
 exact ⟨by rw [hp.length_eq]; exact h.len, hp.nodup_iff.2 h.dis, fun x hx => h.rng x (hp.mem_iff.1 hx)⟩
structure InvOk (t : Tm) (q u : List Int) : Prop where
 len : q.length = 5
 ulen : u.length = 7
 x0 : okM (rnF q) 0 t = true
 wt : wfE t = 0
 wx : wfE (mvT (rnF q) 0 t) = 0
 iv : invL 7 q 0 (List.replicate 7 (-1)) = some u
 b0 : okM (rnF u) 0 (mvT (rnF q) 0 t) = true
 be : mvT (rnF u) 0 (mvT (rnF q) 0 t) = t
theorem x_ge : ∀ (N : Nat) (t : Tm) (b : Int), nT t ≤ N → 0 ≤ b → b + dT t ≤ 1000000 → Rg t = true → xT (fun x => decide (0 ≤ x)) b t = true := by
 intro N
 induction N with
 | zero => intro t b h; have := nT_pos t; omega
 | succ N ih =>
  intro t b hn h0 h1 hr
  cases t with
  | mk k n i ts =>
   simp only [nT] at hn
   simp only [dT] at h1
   simp only [Rg, Bool.and_eq_true] at hr
   have hL : xL (fun x => decide (0 ≤ x)) k b 0 ts = true := xL_of ts 0 (fun a ha j => by
    have hb := inB_b k b j h0 (by omega)
    have h2 := nTs_mem ha
    have h3 := dTs_mem ha
    exact ih a _ (by omega) (by omega) (by omega) (by have := hr.2; rw [RgL_all, List.all_eq_true] at this; exact this a ha))
   simp only [xT, hL, Bool.and_true, Bool.or_eq_true, Bool.not_eq_true', Bool.and_eq_false_iff, decide_eq_false_iff_not, decide_eq_true_eq]
   by_cases hk : k = 5
   ·by_cases hi : i ≥ b
    ·have hr1 := hr.1
     simp only [hk, decide_true, Bool.not_true, Bool.false_or, Bool.and_eq_true, decide_eq_true_eq] at hr1
     refine .inr ?_
     rw [w64_in (by omega) (by omega)]; omega
    ·exact .inl (.inr hi)
   ·exact .inl (.inl hk)
theorem wf_ge {t : Tm} (h : wfE t = 0) : xT (fun x => decide (0 ≤ x)) 0 t = true := x_ge _ t 0 (Nat.le_refl _) (by omega) (by have := wf_dT h; omega) (wf_rg h)
theorem rn_at (l : List Int) (x : Int) (h1 : x < l.length) : rnF l x = (rd l x, true) := by unfold rnF; rw [if_neg (by omega)]
theorem inv_ok {t : Tm} {p : List Int} (h : MA 4 5 2 t) (hp : Pm p) : ∃ u, InvOk t (p.take 5) u := by
 have hw := ma_wf h
 have hx := ma_x h
 have hr := wf_rg hw
 have hd := wf_dT hw
 have hl : (p.take 5).length = 5 := by rw [List.length_take, hp.len]; rfl
 have hmem : ∀ x, 0 ≤ x → x < 5 → rd (p.take 5) x ∈ p.take 5 := fun x h0 h1 => by rw [rd_get _ x h0 (by omega)]; exact List.getElem_mem _
 have hrng : ∀ x ∈ p.take 5, 0 ≤ x ∧ x < 7 := fun x hx => hp.rng x (List.mem_of_mem_take hx)
 obtain ⟨u, e, hu, h1, _⟩ := inv_some (p.take 5) 0 (List.replicate 7 (-1)) (by simp) hrng (hp.dis.sublist (List.take_sublist 5 p)) (fun x hx => by
  have := hrng x hx
  rw [rd_get _ x this.1 (by simp; omega), List.getElem_replicate]; omega)
 have ho : okM (rnF (p.take 5)) 0 t = true := ok_of _ (ltX 5) (fun x h0 h2 => by
  simp only [Bool.and_eq_true, decide_eq_true_eq] at h2
  rw [rn_at _ x (by omega)]
  have := hrng _ (hmem x h0 h2.2)
  exact ⟨rfl, this.1, by dsimp only; omega⟩) _ t 0 (Nat.le_refl _) (by omega) (by omega) hr hx
 have cb := mv_comp (rnF (p.take 5)) (rnF u) (fun x => (x, true)) (ltX 5) (fun x h0 h2 => by
  simp only [Bool.and_eq_true, decide_eq_true_eq] at h2
  rw [rn_at _ x (by omega)]
  have := hrng _ (hmem x h0 h2.2)
  refine ⟨this.1, by dsimp only; omega, ?_⟩
  dsimp only
  rw [rn_at _ _ (by omega)]
  have h3 := h1 x.toNat (by omega)
  rw [← rd_get (p.take 5) x h0 (by omega)] at h3
  rw [h3]
  simp; omega) _ t 0 (Nat.le_refl _) (by omega) (by omega) hr hx
 have ci := mv_id (fun x => (x, true)) (ltX 5) (fun _ _ _ => rfl) _ t 0 (Nat.le_refl _) (by omega) (by omega) hr hx
 exact ⟨u, hl, hu, ho, hw, wf_mv _ hw ho, e, cb.2.trans ci.2, cb.1.trans ci.1⟩
end Go.Proofs.YtpkkoiljombooaaDoor.G
