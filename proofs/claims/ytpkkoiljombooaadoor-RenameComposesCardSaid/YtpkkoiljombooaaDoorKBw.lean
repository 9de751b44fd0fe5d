import Derived.Test.YtpkkoiljombooaaDoorKG0
import Derived.Test.YtpkkoiljombooaaDoorKG6
import Derived.Test.YtpkkoiljombooaaDoorKMr
import Derived.Test.YtpkkoiljombooaaDoorKIv
import Derived.Test.YtpkkoiljombooaaDoorKPt
set_option linter.unusedVariables false
set_option linter.unusedSimpArgs false
namespace Go.Proofs.YtpkkoiljombooaaDoor.G
open Go.RowKit Go.Proofs.YtpkkoiljombooaaDoorW.PrintWords Go.Proofs.YtpkkoiljombooaaDoorW.PrintLast Go.Proofs.YtpkkoiljombooaaDoorW.PrintMore
abbrev bwV : Tm := ⟨5, ⟨#[]⟩, 3, []⟩
theorem bw_n : nT bwV ≤ 1000000 := by simp [bwV, nT, nTs]
theorem bw_wf : wfE bwV = 0 := by decide +kernel
theorem bw_ev : ∃ k, term_WellFormed.f k bwV.f0 bwV.f1 bwV.f2 bwV.f3 = some (wfE bwV) := (wf_ev (t := bwV) bw_n).rounds
theorem bw_sh : okM (shF 2 1) 0 bwV = true ∧ mvI (shF 2 1) 0 5 3 = 5 := by constructor <;> decide +kernel
theorem bw_lo : okM (loF 1 2) 0 bwV = true ∧ mvI (loF 1 2) 0 5 3 = 1 := by constructor <;> decide +kernel
theorem bw_lo2 : okM (loF 2 2) 0 bwV = false := by decide +kernel
theorem bw_rn : okM (rnF [0, 0, 0, 7]) 0 bwV = true ∧ mvI (rnF [0, 0, 0, 7]) 0 5 3 = 7 := by constructor <;> decide +kernel
theorem bw_x : xT (fun x => decide (0 ≤ x)) 0 bwV = true := by decide +kernel
theorem bw_inv : invL 3 [2, -1, 0] 0 (List.replicate (3 : Int).toNat (-1)) = some [2, -1, 0] := by decide +kernel
theorem bw_shift {P : Nat → Prop} {W W' : World} {e : Ending} (h : ShiftEnds 2 1 bwV P W e W') : Below W.heap.size W W' ∧ ∃ A c, e = .returned (.tuple #[.agg #[.int .i64 5, .string ⟨#[]⟩, .int .i64 5, .slice A 0 c], .int .i64 0]) := by
 obtain ⟨hb, ⟨_, _, _, _, v, rfl, hN⟩ | ⟨h1, _⟩ | ⟨_, h1, _⟩⟩ := h
 ·obtain ⟨A, c, rfl⟩ := Kd.N_slice hN
  exact ⟨hb, A, c, by rw [show bwV.f0 = 5 from rfl, show bwV.f2 = 3 from rfl, bw_sh.2]; rfl⟩
 ·exact absurd bw_wf h1
 ·exact absurd ⟨by decide, by decide, bw_sh.1⟩ h1
theorem bw_moved {gd : Prop} (hg : gd) {F : Int → Int × Bool} {r : Int} (hF : okM F 0 bwV = true ∧ mvI F 0 5 3 = r) {P : Nat → Prop} {W W' : World} {e : Ending} (h : MovedEnds gd F bwV P W e W') : Below W.heap.size W W' ∧ ∃ A c, e = .returned (.tuple #[.agg #[.int .i64 5, .string ⟨#[]⟩, .int .i64 r, .slice A 0 c], .bool true]) := by
 obtain ⟨hb, ⟨_, v, rfl, hN⟩ | ⟨h1, _⟩⟩ := h
 ·obtain ⟨A, c, rfl⟩ := Kd.N_slice hN
  exact ⟨hb, A, c, by rw [show bwV.f0 = 5 from rfl, show bwV.f2 = 3 from rfl, hF.2]; rfl⟩
 ·exact absurd ⟨hg, hF.1⟩ h1
theorem bw_not {gd : Prop} {F : Int → Int × Bool} (hF : okM F 0 bwV = false) {P : Nat → Prop} {W W' : World} {e : Ending} (h : MovedEnds gd F bwV P W e W') : Below W.heap.size W W' ∧ e = .returned (.tuple #[.agg #[.int .i64 0, .string ⟨#[]⟩, .int .i64 0, .slice none 0 0], .bool false]) := by
 obtain ⟨hb, ⟨h1, _⟩ | ⟨_, rfl⟩⟩ := h
 ·rw [hF] at h1; exact absurd h1.2 (by decide)
 ·exact ⟨hb, rfl⟩
theorem bw_invert {W W' : World} {e : Ending} (h : InvEnds [2, -1, 0] 3 W e W') : Below W.heap.size W W' ∧ ∃ g c, e = .returned (.tuple #[.slice (some ⟨g, 0, none⟩) 3 c, .bool true]) ∧ W'.cell? ⟨g, 0, none⟩ = some (.int .i64 2) ∧ W'.cell? ⟨g, 1, none⟩ = some (.int .i64 (-1)) ∧ W'.cell? ⟨g, 2, none⟩ = some (.int .i64 0) := by
 obtain ⟨hb, ⟨h1, _⟩ | ⟨_, h1, _⟩ | ⟨_, out, v, h1, rfl, hR⟩⟩ := h
 ·exact absurd ⟨by decide, by decide⟩ h1
 ·rw [bw_inv] at h1; cases h1
 ·rw [bw_inv] at h1
  injection h1 with h1
  subst h1
  obtain ⟨ad, c, rfl⟩ := Kd.R_slice1 hR (by decide)
  obtain ⟨g, rfl⟩ := Kd.R_head hR
  have c0 := (Kd.R_celln (0 : Int) hR 0 (by decide) (by decide)).1
  have c1 := (Kd.R_celln (0 : Int) hR 1 (by decide) (by decide)).1
  have c2 := (Kd.R_celln (0 : Int) hR 2 (by decide) (by decide)).1
  exact ⟨hb, g, c, rfl, c0, c1, c2⟩
theorem ints_C {W : World} {g : Nat} {l : List Int} (h : W.heap[g]? = some (.cells (l.map (Value.int .i64)).toArray 3 (0, 0))) (hl : l.length ≤ 9223372036854775807) : Kd.C (Kd.int .i64) W (some ⟨g, 0, none⟩) l.length l := by
 refine ⟨rfl, hl, fun _ => ⟨⟨g, 0, none⟩, rfl, fun j p hj => ⟨[.int .i64 p], rfl, rfl, fun i u hu => ?_⟩⟩⟩
 have hi : i < 1 := (List.getElem?_eq_some_iff.1 hu).1
 obtain rfl : i = 0 := by omega
 have hu' : Value.int .i64 p = u := by simpa using hu
 subst hu'
 have hs : (Kd.int .i64).sz = 1 := rfl
 have h5 : ((⟨g, 0, none⟩ : Addr).add (j * (Kd.int .i64).sz + 0)) = ⟨g, j, none⟩ := by
  rw [hs, Nat.mul_one, Nat.add_zero]
  unfold Addr.add
  split
  ·rename_i h; subst h; rfl
  ·simp
 rw [h5]
 refine (yE h j).trans ?_
 simp [hj]
def f6_awake.f : Option Bool := some true
set_option maxRecDepth 100000 in
set_option maxHeartbeats 8000000 in
theorem f6_awake.calls (r : Bool) (w : World) (h : f6_awake.f = some r) : Calls Tryd.prog 66 #[] w fun e w' => e = .returned (.bool r) ∧ Below w.heap.size w w' := by
 cases h
 obtain ⟨kw, hw⟩ := bw_ev
 have HW := Lib.hid hw
 clear hw
 have hF : ∀ W : World, Kd.F k25 W (fun _ => False) none bwV.f3.length bwV.f3 := fun W => Kd.F_nil _ _ _
 have HF := Lib.hid hF
 clear hF
 go_enter Tryd.func66, Tryd.ntmps66
 go_wp2_with fail
 refine (shift_calls 2 1 bwV bw_n none 0 (fun _ => False) _ kw HW.out (HF.out _) (Nat.le_refl _) (fun _ h => h.elim)).mono ?_
 intro e W1 h
 obtain ⟨hb1, A1, c1, rfl⟩ := bw_shift h
 have HV1 := Lib.hid (blk_below (blk_new w _) hb1)
 have HB1 := Lib.hid (below_trans (yF (Below.refl w.heap.size w) _) hb1)
 clear h hb1
 have g0 := (yE HV1.out 0)
 have g1 := (yE HV1.out 1)
 have g2 := (yE HV1.out 2)
 have g3 := (yE HV1.out 3)
 have l0 := blk_lt HV1.out
 go_wp2_with fail
 refine (lower_calls 1 2 bwV bw_n none 0 (fun _ => False) _ kw HW.out (HF.out _) (Nat.le_refl _) (fun _ h => h.elim)).mono ?_
 intro e W2 h
 obtain ⟨hb2, A2, c2, rfl⟩ := bw_moved ⟨by decide, by decide, bw_wf⟩ bw_lo h
 have HV2 := Lib.hid (blk_below (yC HV1.out _) hb2)
 have HA2 := Lib.hid (blk_below (blk_new W1 _) hb2)
 have HB2 := Lib.hid (below_trans (yF HB1.out _) hb2)
 clear h hb2 g0 g1 g2 g3 l0 HV1 HB1
 have g0 := (yE HV2.out 0)
 have g1 := (yE HV2.out 1)
 have g2 := (yE HV2.out 2)
 have g3 := (yE HV2.out 3)
 have l0 := blk_lt HV2.out
 go_wp2_with fail
 refine (rename_calls [0, 0, 0, 7] (some ⟨W2.heap.size + 1, 0, none⟩) 4 bwV bw_n none 0 (fun _ => False) _ kw HW.out (HF.out _) (Nat.le_refl _) (fun _ h => h.elim) (ints_C (new_at _ (by simp)) (by decide)) (fun _ => bw_x)).mono ?_
 intro e W3 h
 obtain ⟨hb3, A3, c3, rfl⟩ := bw_moved bw_wf bw_rn h
 have HV3 := Lib.hid (blk_below (yC (yC HV2.out _) _) hb3)
 have HA3 := Lib.hid (blk_below (yC (yC HA2.out _) _) hb3)
 have HO3 := Lib.hid (blk_below (yC (blk_new W2 _) _) hb3)
 have HB3 := Lib.hid (below_trans (yF (yF HB2.out _) _) hb3)
 clear h hb3 g0 g1 g2 g3 l0 HV2 HB2 HA2
 have g0 := (yE HV3.out 0)
 have g1 := (yE HV3.out 1)
 have g2 := (yE HV3.out 2)
 have g3 := (yE HV3.out 3)
 have l0 := blk_lt HV3.out
 go_wp2_with fail
 refine (invert_calls [2, -1, 0] (some ⟨W3.heap.size + 1, 0, none⟩) 3 3 _ (ints_C (new_at _ (by simp)) (by decide)) (by decide)).mono ?_
 intro e W4 h
 obtain ⟨hb4, gi, c4, rfl, i0, i1, i2⟩ := bw_invert h
 have HI4 := Lib.hid (And.intro i0 (And.intro i1 i2))
 have HV4 := Lib.hid (blk_below (yC (yC HV3.out _) _) hb4)
 have HA4 := Lib.hid (blk_below (yC (yC HA3.out _) _) hb4)
 have HO4 := Lib.hid (blk_below (yC (yC HO3.out _) _) hb4)
 have HC4 := Lib.hid (blk_below (yC (blk_new W3 _) _) hb4)
 have HB4 := Lib.hid (below_trans (yF (yF HB3.out _) _) hb4)
 clear h hb4 g0 g1 g2 g3 l0 HV3 HB3 HA3 HO3 i0 i1 i2
 have g0 := (yE HV4.out 0)
 have g1 := (yE HV4.out 1)
 have g2 := (yE HV4.out 2)
 have g3 := (yE HV4.out 3)
 have l0 := blk_lt HV4.out
 go_wp2_with fail
 refine (lower_calls 2 2 bwV bw_n none 0 (fun _ => False) _ kw HW.out (HF.out _) (Nat.le_refl _) (fun _ h => h.elim)).mono ?_
 intro e W5 h
 obtain ⟨hb5, rfl⟩ := bw_not bw_lo2 h
 have HA5 := Lib.hid (blk_below HA4.out hb5)
 have HO5 := Lib.hid (blk_below HO4.out hb5)
 have HC5 := Lib.hid (blk_below HC4.out hb5)
 have HI5 := Lib.hid (And.intro (pw_cell_below hb5 HI4.out.1) (And.intro (pw_cell_below hb5 HI4.out.2.1) (pw_cell_below hb5 HI4.out.2.2)))
 have HB5 := Lib.hid (below_trans HB4.out hb5)
 clear h hb5 g0 g1 g2 g3 l0 HV4 HB4 HA4 HO4 HC4 HI4
 have j0 := yE HA5.out 2
 have j1 := yE HO5.out 2
 have j2 := yE HC5.out 2
 have l0 := blk_lt HA5.out
 have l1 := blk_lt HO5.out
 have l2 := blk_lt HC5.out
 obtain ⟨i0, i1, i2⟩ := HI5.out
 have l3 := World.block_lt_of_cell? _ _ i0
 go_wp2_with fail
 go_ret
 exact ⟨rfl, yF HB5.out _⟩
end Go.Proofs.YtpkkoiljombooaaDoor.G
