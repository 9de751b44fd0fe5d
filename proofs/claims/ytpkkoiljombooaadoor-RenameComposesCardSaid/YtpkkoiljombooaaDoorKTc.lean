import Derived.Test.YtpkkoiljombooaaDoorKG0
import Derived.Test.YtpkkoiljombooaaDoorKTl
import Derived.Test.YtpkkoiljombooaaDoorKRx
import Derived.WalkKit
import Derived.KernelRfl
import Derived.IntWalk
import Derived.Test.YtpkkoiljombooaaDoorKWMore
set_option linter.unusedVariables false
set_option linter.unusedSimpArgs false
namespace Go.Proofs.YtpkkoiljombooaaDoor.G
open Go.RowKit Go.Proofs.YtpkkoiljombooaaDoorW.PrintWords Go.Proofs.YtpkkoiljombooaaDoorW.PrintLast Go.Proofs.YtpkkoiljombooaaDoorW.PrintMore
def ABx (g : Nat) (p : List Int) (W : World) : Prop := W.heap[g]? = some (.cells (p.map (Value.int .i64)).toArray 72 (0, 0))
theorem ABx.below {g p} {W W' : World} (h : ABx g p W) (hb : Below W.heap.size W W') : ABx g p W' := blk_below h hb
theorem ABx.cell {g p} {W : World} (h : ABx g p W) {i : Nat} (hi : i < p.length) : W.cell? ⟨g, i, none⟩ = some (.int .i64 p[i]) := (yE h i).trans (by simp [hi])
abbrev apartOf (v : Value) : Nat → Prop := fun k => True ∧ some k ≠ v.ownBlock
set_option maxRecDepth 100000 in
set_option maxHeartbeats 8000000 in
theorem RenameComposes_all (w : World) (hN : NamesLaid w) (A0 : Option Addr) (c0 : Nat) (l0 : List Int) (hr0 : Kd.C (Kd.int .i64) w A0 l0.length l0) (hc0 : l0.length ≤ c0) (hl0 : l0.length ≤ 4611686018427387904)
  (z1 : List Int) (hz1 : z1.length = 5) (wf1 : ∀ x ∈ z1, (Lit.int .i64 x).wf = true) (z2 : List Int) (hz2 : z2.length = 5) (wf2 : ∀ x ∈ z2, (Lit.int .i64 x).wf = true) :
  Calls Tryd.prog 16 #[.slice A0 l0.length c0, .agg (z1.map (Value.int .i64)).toArray, .agg (z2.map (Value.int .i64)).toArray] w fun e w' => e = .returned (.bool true) ∧ Below w.heap.size w w' := by
 obtain ⟨t, j, he, ht, _, _⟩ := any_some l0 hl0 4 5 2 (by omega) (by omega) (by omega) (by omega) (by omega) (by omega) 0 (by omega) (by omega)
 obtain ⟨k, hk⟩ := he.rounds
 have HM := Lib.hid ht
 have HW := Lib.hid (ma_wf ht)
 have HNT := Lib.hid (show okN t by have := (wf_dT HW.out).2; unfold okN; omega)
 have HK : Hid (fm_AnyL.f k l0 4 5 2 = some (t.f0, t.f1, t.f2, t.f3)) := Lib.hid (by unfold fm_AnyL.f; rw [hk]; rfl)
 have HR := Lib.hid hr0
 have HC := Lib.hid hc0
 have HNL := Lib.hid hN
 clear he ht hk hr0 hc0 hl0 hN wf1 wf2
 have HBel0 := Lib.hid (yF (yF (Below.refl w.heap.size w) (.cells (z1.map (Value.int .i64)).toArray 72)) (.cells (z2.map (Value.int .i64)).toArray 72))
 have HA0 : Hid (ABx w.heap.size z1 ((w.alloc (.cells (z1.map (Value.int .i64)).toArray 72)).alloc (.cells (z2.map (Value.int .i64)).toArray 72))) := Lib.hid (yC (blk_new _ _) _)
 have HB0 : Hid (ABx (w.heap.size + 1) z2 ((w.alloc (.cells (z1.map (Value.int .i64)).toArray 72)).alloc (.cells (z2.map (Value.int .i64)).toArray 72))) := Lib.hid (new_at _ (by simp))
 go_enter Tryd.func16, Tryd.ntmps16
 go_wp2_with fail
 refine (any_at ((w.alloc (.cells (z1.map (Value.int .i64)).toArray 72)).alloc (.cells (z2.map (Value.int .i64)).toArray 72)) _ (by simp) (Kd.C_alloc (Kd.C_alloc HR.out _) _) HC.out HK.out (HNL.out.below HBel0.out)).mono ?_
 rintro e W1 ⟨v, rfl, At, ct, rfl, hl, hB⟩
 have HT1 := Lib.hid (TFx.new hl.1 hl.2)
 have HA1 := Lib.hid ((HA0.out.below hB).below (yF (Below.refl _ _) (.cells #[.int .i64 t.f0, .string t.f1, .int .i64 t.f2, .slice At t.f3.length ct] 25)))
 have HB1 := Lib.hid ((HB0.out.below hB).below (yF (Below.refl _ _) (.cells #[.int .i64 t.f0, .string t.f1, .int .i64 t.f2, .slice At t.f3.length ct] 25)))
 have HBel1 := Lib.hid (yF (below_trans HBel0.out hB) (.cells #[.int .i64 t.f0, .string t.f1, .int .i64 t.f2, .slice At t.f3.length ct] 25))
 clear hl hB HBel0 HA0 HB0 HR HC HK HNL
 go_wp2_with fail
 generalize W1.alloc (.cells #[.int .i64 t.f0, .string t.f1, .int .i64 t.f2, .slice At t.f3.length ct] 25) = V at HT1 HA1 HB1 HBel1 ⊢
 generalize W1.heap.size = n0 at HT1 ⊢
 obtain ⟨n, hn⟩ : ∃ n, n = V.heap.size := ⟨_, rfl⟩
 have HV := Lib.hid hn
 clear hn
 go_loopw [8, 9, 11] (fun v8 v9 v11 wr => ∃ (i : Nat) (a b : List Int), i ≤ 5 ∧ v11 = .int .i64 i ∧ Hid ((a.length = i ∧ b.length = i) ∧ (∀ x ∈ a, 0 ≤ x ∧ x < 5) ∧ (∀ x ∈ b, 0 ≤ x ∧ x < 9)) ∧ Hid (Kd.R (Kd.int .i64) 3 wr n (apartOf v9) v8 a) ∧ Hid (Kd.R (Kd.int .i64) 3 wr n (apartOf v8) v9 b) ∧ Hid (Below n V wr)) (fun v8 v9 v11 _ => 5 - (intOf v11).toNat)
 case atStart => exact ⟨0, [], [], by omega, rfl, Lib.hid ⟨⟨rfl, rfl⟩, by simp, by simp⟩, Lib.hid (Kd.R_nil _ _ _ _ _), Lib.hid (Kd.R_nil _ _ _ _ _), Lib.hid (Below.refl _ _)⟩
 case round =>
  obtain ⟨i, a, b, hi, rfl, HAB, HRa, HRb, HBr⟩ := hrel
  have w1 : IntKind.i64.wrap ((i : Int) + 1) = ((i + 1 : Nat) : Int) := by rw [IntKind.wrap_i64]; omega
  by_cases hlt : i < 5
  ·have ca := ABx.cell ((HA1.out.below (HV.out ▸ HBr.out))) (i := i) (by omega)
   have HCB : Hid (∀ W', Below n V W' → W'.cell? ⟨w.heap.size + 1, i, none⟩ = some (.int .i64 z2[i])) := Lib.hid (fun W' hb => ABx.cell (HB1.out.below (HV.out ▸ hb)) (by omega))
   obtain ⟨x, hx, hx0, hx1⟩ := cut_some z1[i] 5 (by omega) (by omega)
   obtain ⟨y, hy, hy0, hy1⟩ := cut_some z2[i] 9 (by omega) (by omega)
   generalize z1[i] = m1 at ca hx
   generalize z2[i] = m2 at HCB hy
   have HX := Lib.hid (And.intro hx (And.intro hx0 hx1))
   have HY := Lib.hid (And.intro hy (And.intro hy0 hy1))
   clear hx hx0 hx1 hy hy0 hy1
   have HAl := Lib.hid (And.intro HAB.out.1.1 HAB.out.1.2)
   go_wp2_with (first
    | ((with_reducible refine gate_callee (f := 18) rfl ?_); (refine goesL_ (some 31) rfl rfl Tryd.func18 (by kernel_rfl) rfl #[.int .i64 m1, .int .i64 5] rfl (by (try simp only [List.map_toArray, List.map_cons, List.map_nil]); first | done | rfl) ?_); (with_reducible refine (cut_at HX.out.1 _).mono ?_); rintro e W2 ⟨rfl, hB⟩; refine ⟨_, rfl, ?_⟩; have HRa2 := Lib.hid (Kd.R_below HRa.out hB); have HRb2 := Lib.hid (Kd.R_below HRb.out hB); have HB2 := Lib.hid (HBr.out.trans (hB.mono (by have := HBr.out.size; have := HV.out; omega))); clear hB HRa HRb HBr ca)
    | ((with_reducible refine gate_builtin (b := .append) (xs := #[.tmp 27, .tmp 32]) rfl ?_); at_builtin; go_loud (refine Kd.R_append (Kd.int .i64) (w0 := V) n rfl (.tmp 27) (.tmp 32) 22 3 (.int .i64 0) 8 rfl Tryd.underlying22 info3 rfl (by decide) (by omega) u8 a x [.int .i64 x] (apartOf u9) (fun _ => False) rfl rfl ?aP (fun _ hk => hk.elim) ?aF ?aO ?aB ?aS ?aL ?_); (case aP => exact rfl); (case aF => exact (fun k hk => ⟨trivial, Kd.fresh' (Kd.R_lt HRb2.out) k hk⟩)); (case aO => exact HRa2.out); (case aB => exact HB2.out); (case aS => exact (by have := HB2.out.size; have := HV.out; omega)); (case aL => have := HAl.out; omega); intro va1 wa1 ho hb hg hat ; have HRa3 := Lib.hid ho; have HRb3 := Lib.hid (Kd.R_after (ok := fun _ => True) HRb2.out hg hat); have HB3 := Lib.hid hb; have cb := HCB.out _ hb; clear ho hb hg hat HRa2 HRb2 HB2)
    | ((with_reducible refine gate_callee (f := 18) rfl ?_); refine goesL_ (some 38) rfl rfl Tryd.func18 (by kernel_rfl) rfl #[.int .i64 m2, .int .i64 9] rfl (by (try simp only [List.map_toArray, List.map_cons, List.map_nil]); first | done | rfl) ?_; (with_reducible refine (cut_at HY.out.1 _).mono ?_); rintro e W4 ⟨rfl, hB⟩; refine ⟨_, rfl, ?_⟩; have HRa4 := Lib.hid (Kd.R_below HRa3.out hB); have HRb4 := Lib.hid (Kd.R_below HRb3.out hB); have HB4 := Lib.hid (HB3.out.trans (hB.mono (by have := HB3.out.size; have := HV.out; omega))); clear hB HRa3 HRb3 HB3 cb)
    | ((with_reducible refine gate_builtin (b := .append) (xs := #[.tmp 34, .tmp 39]) rfl ?_); at_builtin; go_loud (refine Kd.R_append (Kd.int .i64) (w0 := V) n rfl (.tmp 34) (.tmp 39) 22 3 (.int .i64 0) 8 rfl Tryd.underlying22 info3 rfl (by decide) (by omega) u9 b y [.int .i64 y] (apartOf va1) (fun _ => False) rfl rfl ?aP (fun _ hk => hk.elim) ?aF ?aO ?aB ?aS ?aL ?_); (case aP => exact rfl); (case aF => exact (fun k hk => ⟨trivial, Kd.fresh' (Kd.R_lt HRa4.out) k hk⟩)); (case aO => exact HRb4.out); (case aB => exact HB4.out); (case aS => exact (by have := HB4.out.size; have := HV.out; omega)); (case aL => have := HAl.out; omega); intro vb1 wb1 ho hb hg hat ; have HRb5 := Lib.hid ho; have HRa5 := Lib.hid (Kd.R_after (ok := fun _ => True) HRa4.out hg hat); have HB5 := Lib.hid hb; clear ho hb hg hat HRa4 HRb4 HB4))
   go_roundw
   case rel => exact ⟨i + 1, a ++ [x], b ++ [y], by omega, by go_num, Lib.hid ⟨⟨by simp [HAB.out.1.1], by simp [HAB.out.1.2]⟩, fun q hq => by rcases List.mem_append.1 hq with hq | hq; exact HAB.out.2.1 q hq; (obtain rfl := List.mem_singleton.1 hq; exact HX.out.2), fun q hq => by rcases List.mem_append.1 hq with hq | hq; exact HAB.out.2.2 q hq; (obtain rfl := List.mem_singleton.1 hq; exact HY.out.2)⟩, HRa5, HRb5, HB5⟩
   case measure => simp [intOf]; omega
  ·have HI5 := Lib.hid (show i = 5 by omega)
   clear w1
   obtain ⟨ada, ca, rfl⟩ := Kd.R_slice1 HRa.out (by have := HAB.out.1.1; have := HI5.out; omega)
   obtain ⟨adb, cb, rfl⟩ := Kd.R_slice1 HRb.out (by have := HAB.out.1.2; have := HI5.out; omega)
   go_wp2_with fail
   clear hlt hi
   go_loopw [10, 12] (fun v10 v12 W' => ∃ (i : Nat) (c : List Int), i ≤ 5 ∧ v12 = .int .i64 i ∧ Hid (c.length = i ∧ (∀ j : Nat, j < i → rd c (j : Int) = rd b (rd a (j : Int)))) ∧ Hid (Kd.R (Kd.int .i64) 3 W' n (fun _ => True) v10 c) ∧ Hid (Kd.R (Kd.int .i64) 3 W' n (apartOf v10) (.slice (some ada) a.length ca) a) ∧ Hid (Kd.R (Kd.int .i64) 3 W' n (apartOf v10) (.slice (some adb) b.length cb) b) ∧ Hid (Below n V W')) (fun v10 v12 _ => 5 - (intOf v12).toNat)
   case atStart => exact ⟨0, [], by omega, rfl, Lib.hid ⟨rfl, fun j h => absurd h (by omega)⟩, Lib.hid (Kd.R_nil _ _ _ _ _), Lib.hid (Kd.R_mono HRa.out (fun _ _ => ⟨trivial, by simp [Value.ownBlock]⟩)), Lib.hid (Kd.R_mono HRb.out (fun _ _ => ⟨trivial, by simp [Value.ownBlock]⟩)), HBr⟩
   case round =>
    clear HRa HRb HBr
    have la := HAB.out.1.1.trans HI5.out
    have lb := HAB.out.1.2.trans HI5.out
    obtain ⟨i, c, hi, rfl, HCI, HRc, HRa, HRb, HBr⟩ := hrel
    have w1 : IntKind.i64.wrap ((i : Int) + 1) = ((i + 1 : Nat) : Int) := by rw [IntKind.wrap_i64]; omega
    by_cases hlt : i < 5
    ·obtain ⟨_, ea, ha⟩ := Kd.at_int (Kd.R_reads' HRa.out).2.2 (i : Int) (by omega) (by omega)
     cases ea
     have hx := HAB.out.2.1 (rd a (i : Int)) (by rw [rd_get _ _ (by omega) (by omega)]; exact List.getElem_mem _)
     have HXI : Hid (∃ y, rd b (rd a (i : Int)) = y) := Lib.hid ⟨_, rfl⟩
     obtain ⟨x, hxe⟩ : ∃ x, rd a (i : Int) = x := ⟨_, rfl⟩
     rw [hxe] at ha hx
     obtain ⟨_, eb, hb⟩ := Kd.at_int (Kd.R_reads' HRb.out).2.2 x hx.1 (by omega)
     cases eb
     obtain ⟨y, hye⟩ : ∃ y, rd b x = y := ⟨_, rfl⟩
     rw [hye] at hb
     obtain ⟨q, rfl⟩ : ∃ q : Nat, x = q := ⟨x.toNat, by omega⟩
     rw [Int.toNat_natCast] at ha hb
     have hq5 : q < b.length := by omega
     have hi5 : i < a.length := by omega
     have HAl := Lib.hid HCI.out.1
     have HXY := Lib.hid (And.intro hxe hye)
     clear hxe hye hx HXI la lb
     go_wp2_with (first
      | ((with_reducible refine gate_builtin (b := .append) (xs := #[.tmp 45, .tmp 53]) rfl ?_); at_builtin; go_loud (refine Kd.R_append (Kd.int .i64) (w0 := V) n rfl (.tmp 45) (.tmp 53) 22 3 (.int .i64 0) 8 rfl Tryd.underlying22 info3 rfl (by decide) (by omega) u10 c y [.int .i64 y] (fun _ => True) (fun _ => False) rfl rfl ?aP (fun _ hk => hk.elim) ?aF ?aO ?aB ?aS ?aL ?_); (case aP => exact rfl); (case aF => exact (fun _ _ => trivial)); (case aO => exact HRc.out); (case aB => exact HBr.out); (case aS => exact (by have := HBr.out.size; have := HV.out; omega)); (case aL => have := HAl.out; omega); intro vc1 wc1 ho hb_ hg hat ; have HRc1 := Lib.hid ho; have HRa1 := Lib.hid (Kd.R_after (ok := fun _ => True) HRa.out hg hat); have HRb1 := Lib.hid (Kd.R_after (ok := fun _ => True) HRb.out hg hat); have HB1' := Lib.hid hb_; clear ho hb_ hg hat HRa HRb HRc HBr))
     go_roundw
     case rel => exact ⟨i + 1, c ++ [y], by omega, by go_num, Lib.hid ⟨by simp [HAl.out], fun j hj => by
      have hl := HAl.out
      by_cases hji : j < i
      ·rw [← HCI.out.2 j hji, rd_get _ _ (by omega) (by simp; omega), rd_get _ _ (by omega) (by omega), List.getElem_append_left]
      ·obtain rfl : j = i := by omega
       rw [HXY.out.1, HXY.out.2, rd_get _ _ (by omega) (by simp; omega)]
       simp [hl]⟩, HRc1, HRa1, HRb1, HB1'⟩
     case measure => simp [intOf]; omega
    ·obtain rfl : i = 5 := by omega
     obtain ⟨adc, cc, rfl⟩ := Kd.R_slice1 HRc.out (by have := HCI.out.1; omega)
     have HOK := Lib.hid (comp_ok HM.out la lb HCI.out.1 HAB.out.2.1 HAB.out.2.2 (fun x h0 h1 => by have := HCI.out.2 x.toNat (by omega); rw [Int.toNat_of_nonneg h0] at this; exact this))
     obtain ⟨x, hx⟩ : ∃ x, mvT (rnF a) 0 t = x := ⟨_, rfl⟩
     obtain ⟨z, hz⟩ : ∃ z, mvT (rnF c) 0 t = z := ⟨_, rfl⟩
     have HX := Lib.hid hx
     have HZ := Lib.hid hz
     have HWX := Lib.hid (show wfE x = 0 from hx ▸ HOK.out.wx)
     have HY := Lib.hid (show mvT (rnF b) 0 x = z from hx ▸ hz ▸ HOK.out.yz)
     have HOY := Lib.hid (show okM (rnF b) 0 x = true from hx ▸ HOK.out.y0)
     have HNZ := Lib.hid (show okN z by have := (wf_dT HW.out).2; have := nT_mv (rnF c) t 0; rw [hz] at this; unfold okN; omega)
     have HSZZ := Lib.hid (same_refl _ z (Nat.le_refl _))
     clear hx hz w1 hlt la lb
     have Ht20 := Lib.hid (TFx.tb (HT1.out.below (HV.out ▸ HBr.out)))
     have Ha20 := Lib.hid (Kd.R_reads' HRa.out).2.2
     have Hb20 := Lib.hid (Kd.R_reads' HRb.out).2.2
     have Hc20 := Lib.hid (Kd.R_reads' HRc.out).2.2
     have HBel20 := Lib.hid (below_trans HBel1.out (HV.out ▸ HBr.out))
     clear HRa HRb HRc HBr
     obtain ⟨gt0, gt1, gt2, gt3, gt4⟩ := Ht20.out.cells
     go_wp2_with fail
     refine (rename_at a (some ada) ca rfl HW.out HOK.out.x0 HX.out Ha20.out Ht20.out.l Ht20.out.c).mono ?_
     rintro e W21 ⟨v, rfl, Ax, cx, rfl, hl, hB⟩; have HLx := Lib.hid hl; clear hl
     have Ht21 := Lib.hid (TBx.below (by repeat (first | exact Ht20.out | apply TBx.alloc)) hB)
     have Ha21 := Lib.hid (Kd.C_below (by repeat (first | exact Ha20.out | apply Kd.C_alloc)) hB)
     have Hb21 := Lib.hid (Kd.C_below (by repeat (first | exact Hb20.out | apply Kd.C_alloc)) hB)
     have Hc21 := Lib.hid (Kd.C_below (by repeat (first | exact Hc20.out | apply Kd.C_alloc)) hB)
     have HBel21 := Lib.hid (below_trans (by repeat (first | exact HBel20.out | apply yF)) hB)
     clear HBel20 Ht20 Ha20 Hb20 Hc20 gt0 gt1 gt2 gt3 gt4
     obtain ⟨gt0, gt1, gt2, gt3, gt4⟩ := Ht21.out.cells
     go_wp2_with fail
     refine (rename_at b (some adb) cb rfl HWX.out HOY.out HY.out (Kd.C_alloc Hb21.out _) (Kd.C_alloc HLx.out.1 _) HLx.out.2).mono ?_
     rintro e W22 ⟨v, rfl, Ay, cy, rfl, hl, hB⟩; have HLy := Lib.hid hl; clear hl
     have Ht22 := Lib.hid (TBx.below (by repeat (first | exact Ht21.out | apply TBx.alloc)) hB)
     have Ha22 := Lib.hid (Kd.C_below (by repeat (first | exact Ha21.out | apply Kd.C_alloc)) hB)
     have Hb22 := Lib.hid (Kd.C_below (by repeat (first | exact Hb21.out | apply Kd.C_alloc)) hB)
     have Hc22 := Lib.hid (Kd.C_below (by repeat (first | exact Hc21.out | apply Kd.C_alloc)) hB)
     have Hx22 := Lib.hid (TBx.below (by repeat (first | exact TBx.new HLx.out.1 HLx.out.2 | apply TBx.alloc)) hB)
     have HBel22 := Lib.hid (below_trans (by repeat (first | exact HBel21.out | apply yF)) hB)
     clear HBel21 Ht21 Ha21 Hb21 Hc21 gt0 gt1 gt2 gt3 gt4
     obtain ⟨gt0, gt1, gt2, gt3, gt4⟩ := Ht22.out.cells
     obtain ⟨gx0, gx1, gx2, gx3, gx4⟩ := Hx22.out.cells
     go_wp2_with fail
     refine (rename_at c (some adc) cc rfl HW.out HOK.out.z0 HZ.out (Kd.C_alloc Hc22.out _) (Kd.C_alloc Ht22.out.l _) Ht22.out.c).mono ?_
     rintro e W23 ⟨v, rfl, Az, cz, rfl, hl, hB⟩; have HLz := Lib.hid hl; clear hl
     have Ht23 := Lib.hid (TBx.below (by repeat (first | exact Ht22.out | apply TBx.alloc)) hB)
     have Ha23 := Lib.hid (Kd.C_below (by repeat (first | exact Ha22.out | apply Kd.C_alloc)) hB)
     have Hb23 := Lib.hid (Kd.C_below (by repeat (first | exact Hb22.out | apply Kd.C_alloc)) hB)
     have Hc23 := Lib.hid (Kd.C_below (by repeat (first | exact Hc22.out | apply Kd.C_alloc)) hB)
     have Hx23 := Lib.hid (TBx.below (by repeat (first | exact Hx22.out | apply TBx.alloc)) hB)
     have Hy23 := Lib.hid (TBx.below (by repeat (first | exact TBx.new HLy.out.1 HLy.out.2 | apply TBx.alloc)) hB)
     have HBel23 := Lib.hid (below_trans (by repeat (first | exact HBel22.out | apply yF)) hB)
     clear HBel22 Ht22 Ha22 Hb22 Hc22 Hx22 gt0 gt1 gt2 gt3 gt4 gx0 gx1 gx2 gx3 gx4
     obtain ⟨gt0, gt1, gt2, gt3, gt4⟩ := Ht23.out.cells
     obtain ⟨gx0, gx1, gx2, gx3, gx4⟩ := Hx23.out.cells
     obtain ⟨gy0, gy1, gy2, gy3, gy4⟩ := Hy23.out.cells
     go_wp2_with fail
     refine (rsame_at HNZ.out HSZZ.out (Kd.C_alloc Hy23.out.l _) Hy23.out.c (Kd.C_alloc HLz.out.1 _) HLz.out.2).mono ?_
     rintro e W24 ⟨rfl, hB⟩
     have Ht24 := Lib.hid (TBx.below (by repeat (first | exact Ht23.out | apply TBx.alloc)) hB)
     have Ha24 := Lib.hid (Kd.C_below (by repeat (first | exact Ha23.out | apply Kd.C_alloc)) hB)
     have Hb24 := Lib.hid (Kd.C_below (by repeat (first | exact Hb23.out | apply Kd.C_alloc)) hB)
     have Hc24 := Lib.hid (Kd.C_below (by repeat (first | exact Hc23.out | apply Kd.C_alloc)) hB)
     have Hx24 := Lib.hid (TBx.below (by repeat (first | exact Hx23.out | apply TBx.alloc)) hB)
     have Hy24 := Lib.hid (TBx.below (by repeat (first | exact Hy23.out | apply TBx.alloc)) hB)
     have Hz24 := Lib.hid (TBx.below (by repeat (first | exact TBx.new HLz.out.1 HLz.out.2 | apply TBx.alloc)) hB)
     have HBel24 := Lib.hid (below_trans (by repeat (first | exact HBel23.out | apply yF)) hB)
     clear HBel23 Ht23 Ha23 Hb23 Hc23 Hx23 Hy23 gt0 gt1 gt2 gt3 gt4 gx0 gx1 gx2 gx3 gx4 gy0 gy1 gy2 gy3 gy4
     obtain ⟨gt0, gt1, gt2, gt3, gt4⟩ := Ht24.out.cells
     obtain ⟨gx0, gx1, gx2, gx3, gx4⟩ := Hx24.out.cells
     obtain ⟨gy0, gy1, gy2, gy3, gy4⟩ := Hy24.out.cells
     obtain ⟨gz0, gz1, gz2, gz3, gz4⟩ := Hz24.out.cells
     go_wp2_with fail
     refine (f6_awake.calls true _ rfl).mono ?_
     rintro e W25 ⟨rfl, hB⟩
     have Ht25 := Lib.hid (TBx.below (by repeat (first | exact Ht24.out | apply TBx.alloc)) hB)
     have Ha25 := Lib.hid (Kd.C_below (by repeat (first | exact Ha24.out | apply Kd.C_alloc)) hB)
     have Hb25 := Lib.hid (Kd.C_below (by repeat (first | exact Hb24.out | apply Kd.C_alloc)) hB)
     have Hc25 := Lib.hid (Kd.C_below (by repeat (first | exact Hc24.out | apply Kd.C_alloc)) hB)
     have Hx25 := Lib.hid (TBx.below (by repeat (first | exact Hx24.out | apply TBx.alloc)) hB)
     have Hy25 := Lib.hid (TBx.below (by repeat (first | exact Hy24.out | apply TBx.alloc)) hB)
     have Hz25 := Lib.hid (TBx.below (by repeat (first | exact Hz24.out | apply TBx.alloc)) hB)
     have HBel25 := Lib.hid (below_trans (by repeat (first | exact HBel24.out | apply yF)) hB)
     clear HBel24 Ht24 Ha24 Hb24 Hc24 Hx24 Hy24 Hz24 gt0 gt1 gt2 gt3 gt4 gx0 gx1 gx2 gx3 gx4 gy0 gy1 gy2 gy3 gy4 gz0 gz1 gz2 gz3 gz4
     go_wp2_with fail
     go_ret
     exact ⟨rfl, HBel25.out⟩
end Go.Proofs.YtpkkoiljombooaaDoor.G
