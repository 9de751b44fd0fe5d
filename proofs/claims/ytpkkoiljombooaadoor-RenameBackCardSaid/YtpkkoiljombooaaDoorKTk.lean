import Derived.Test.YtpkkoiljombooaaDoorKG0
import Derived.Test.YtpkkoiljombooaaDoorKTl
import Derived.Test.YtpkkoiljombooaaDoorKRx
import Derived.WalkKit
import Derived.KernelRfl
import Derived.Deep.RegionHeld3
import Derived.IntWalk
import Derived.Test.YtpkkoiljombooaaDoorKWMore
set_option linter.unusedVariables false
set_option linter.unusedSimpArgs false
namespace Go.Proofs.YtpkkoiljombooaaDoor.G
open Go.RowKit Go.Proofs.YtpkkoiljombooaaDoorW.PrintWords Go.Proofs.YtpkkoiljombooaaDoorW.PrintLast Go.Proofs.YtpkkoiljombooaaDoorW.PrintMore
set_option maxRecDepth 100000 in
set_option maxHeartbeats 8000000 in
theorem RenameBack_all (w : World) (hN : NamesLaid w) (A0 : Option Addr) (c0 : Nat) (l0 : List Int) (hr0 : Kd.C (Kd.int .i64) w A0 l0.length l0) (hc0 : l0.length ≤ c0) (hl0 : l0.length ≤ 4611686018427387904)
  (n1 : Int) (wf1 : (Lit.int .i64 n1).wf = true) (n2 : Int) (wf2 : (Lit.int .i64 n2).wf = true) (n3 : Int) (wf3 : (Lit.int .i64 n3).wf = true) :
  Calls Tryd.prog 14 #[.slice A0 l0.length c0, .int .i64 n1, .int .i64 n2, .int .i64 n3] w fun e w' => e = .returned (.bool true) ∧ Below w.heap.size w w' := by
 obtain ⟨t, j, he, ht, _, _⟩ := any_some l0 hl0 4 5 2 (by omega) (by omega) (by omega) (by omega) (by omega) (by omega) 0 (by omega) (by omega)
 obtain ⟨k, hk⟩ := he.rounds
 obtain ⟨a, ha, ha0, ha1⟩ := cut_some n1 9 (by omega) (by omega)
 obtain ⟨b, hb, hb0, hb1⟩ := cut_some n2 9 (by omega) (by omega)
 obtain ⟨c, hc, hc0', hc1⟩ := cut_some n3 7 (by omega) (by omega)
 have HO := Lib.hid (back_ok ht ha0 ha1 hb0 hb1 hc0' hc1)
 have HW := Lib.hid (ma_wf ht)
 have HA := Lib.hid ha0
 have HB := Lib.hid hb0
 have HCC := Lib.hid hc0'
 have wab : IntKind.i64.wrap (a + b) = a + b := IntWalk.i64_in _ (by omega)
 have HAB := Lib.hid (show 0 ≤ a + b by omega)
 obtain ⟨x, hx⟩ : ∃ x, mvT (shF a c) 0 t = x := ⟨_, rfl⟩
 obtain ⟨z, hz⟩ : ∃ z, mvT (shF (a + b) c) 0 t = z := ⟨_, rfl⟩
 have HX := Lib.hid hx
 have HZ := Lib.hid hz
 have HWX := Lib.hid (show wfE x = 0 from hx ▸ HO.out.wx)
 have HY := Lib.hid (show mvT (shF b c) 0 x = z from hx ▸ hz ▸ HO.out.yz)
 have HBK := Lib.hid (show mvT (loF c a) 0 x = t from hx ▸ HO.out.be)
 have HOB := Lib.hid (show okM (loF c a) 0 x = true from hx ▸ HO.out.b0)
 have HOY := Lib.hid (show okM (shF b c) 0 x = true from hx ▸ HO.out.y0)
 have HNT := Lib.hid (show okN t by have := (wf_dT HW.out).2; unfold okN; omega)
 have HNZ := Lib.hid (show okN z by have := (wf_dT HW.out).2; have := nT_mv (shF (a + b) c) t 0; rw [hz] at this; unfold okN; omega)
 have HK : Hid (fm_AnyL.f k l0 4 5 2 = some (t.f0, t.f1, t.f2, t.f3)) := Lib.hid (by unfold fm_AnyL.f; rw [hk]; rfl)
 have HSTT := Lib.hid (same_refl _ t (Nat.le_refl _))
 have HSZZ := Lib.hid (same_refl _ z (Nat.le_refl _))
 have HR := Lib.hid hr0
 have HC := Lib.hid hc0
 have HNL := Lib.hid hN
 have HCa := Lib.hid ha
 have HCb := Lib.hid hb
 have HCc := Lib.hid hc
 clear he ht hk hr0 hc0 hl0 hN ha hb hc ha0 ha1 hb0 hb1 hc0' hc1 wf1 wf2 wf3 hx hz
 have HBel0 := Lib.hid (Below.refl w.heap.size w)
 go_enter Tryd.func14, Tryd.ntmps14
 go_wp2_with fail
 refine (fm_AnyL.calls k A0 c0 l0 4 5 2 t.f0 t.f1 t.f2 t.f3 _ HR.out HC.out HK.out HNL.out).mono ?_
 rintro e W1 ⟨v3, rfl, hn3, hB⟩; obtain ⟨At, ct, rfl⟩ := Kd.N_slice hn3; have HLt := Lib.hid (And.intro (Kd.N_reads' hn3).2.2 (Kd.N_reads' hn3).2.1); clear hn3
 have HBel1 := Lib.hid (below_trans (by repeat (first | exact HBel0.out | apply yF)) hB)
 go_wp2_with fail
 refine (cut_at HCa.out _).mono ?_
 rintro e W2 ⟨rfl, hB⟩
 have Ht2 := Lib.hid (TBx.below (by repeat (first | exact TBx.new HLt.out.1 HLt.out.2 | apply TBx.alloc)) hB)
 have HBel2 := Lib.hid (below_trans (by repeat (first | exact HBel1.out | apply yF)) hB)
 clear HBel1
 obtain ⟨gt0, gt1, gt2, gt3, gt4⟩ := Ht2.out.cells
 go_wp2_with fail
 refine (cut_at HCb.out _).mono ?_
 rintro e W3 ⟨rfl, hB⟩
 have Ht3 := Lib.hid (TBx.below (by repeat (first | exact Ht2.out | apply TBx.alloc)) hB)
 have HBel3 := Lib.hid (below_trans (by repeat (first | exact HBel2.out | apply yF)) hB)
 clear HBel2 Ht2 gt0 gt1 gt2 gt3 gt4
 obtain ⟨gt0, gt1, gt2, gt3, gt4⟩ := Ht3.out.cells
 go_wp2_with fail
 refine (cut_at HCc.out _).mono ?_
 rintro e W4 ⟨rfl, hB⟩
 have Ht4 := Lib.hid (TBx.below (by repeat (first | exact Ht3.out | apply TBx.alloc)) hB)
 have HBel4 := Lib.hid (below_trans (by repeat (first | exact HBel3.out | apply yF)) hB)
 clear HBel3 Ht3 gt0 gt1 gt2 gt3 gt4
 obtain ⟨gt0, gt1, gt2, gt3, gt4⟩ := Ht4.out.cells
 go_wp2_with fail
 refine (shift_at a c HW.out HA.out HCC.out HO.out.x0 HX.out Ht4.out.l Ht4.out.c).mono ?_
 rintro e W5 ⟨v, rfl, Ax, cx, rfl, hl, hB⟩; have HLx := Lib.hid hl; clear hl
 have Ht5 := Lib.hid (TBx.below (by repeat (first | exact Ht4.out | apply TBx.alloc)) hB)
 have HBel5 := Lib.hid (below_trans (by repeat (first | exact HBel4.out | apply yF)) hB)
 clear HBel4 Ht4 gt0 gt1 gt2 gt3 gt4
 obtain ⟨gt0, gt1, gt2, gt3, gt4⟩ := Ht5.out.cells
 go_wp2_with fail
 refine (lower_at (A := Ax) (c := cx) c a HWX.out HCC.out HA.out HOB.out HBK.out (Kd.C_alloc HLx.out.1 _) HLx.out.2).mono ?_
 rintro e W6 ⟨v, rfl, Ab, cb, rfl, hl, hB⟩; have HLb := Lib.hid hl; clear hl
 have Ht6 := Lib.hid (TBx.below (by repeat (first | exact Ht5.out | apply TBx.alloc)) hB)
 have Hx6 := Lib.hid (TBx.below (by repeat (first | exact TBx.new HLx.out.1 HLx.out.2 | apply TBx.alloc)) hB)
 have HBel6 := Lib.hid (below_trans (by repeat (first | exact HBel5.out | apply yF)) hB)
 clear HBel5 Ht5 gt0 gt1 gt2 gt3 gt4
 obtain ⟨gt0, gt1, gt2, gt3, gt4⟩ := Ht6.out.cells
 obtain ⟨gx0, gx1, gx2, gx3, gx4⟩ := Hx6.out.cells
 go_wp2_with fail
 refine (shift_at b c HWX.out HB.out HCC.out HOY.out HY.out (Kd.C_alloc Hx6.out.l _) Hx6.out.c).mono ?_
 rintro e W7 ⟨v, rfl, Ay, cy, rfl, hl, hB⟩; have HLy := Lib.hid hl; clear hl
 have Ht7 := Lib.hid (TBx.below (by repeat (first | exact Ht6.out | apply TBx.alloc)) hB)
 have Hx7 := Lib.hid (TBx.below (by repeat (first | exact Hx6.out | apply TBx.alloc)) hB)
 have Hb7 := Lib.hid (TBx.below (by repeat (first | exact TBx.new HLb.out.1 HLb.out.2 | apply TBx.alloc)) hB)
 have HBel7 := Lib.hid (below_trans (by repeat (first | exact HBel6.out | apply yF)) hB)
 clear HBel6 Ht6 Hx6 gt0 gt1 gt2 gt3 gt4 gx0 gx1 gx2 gx3 gx4
 obtain ⟨gt0, gt1, gt2, gt3, gt4⟩ := Ht7.out.cells
 obtain ⟨gx0, gx1, gx2, gx3, gx4⟩ := Hx7.out.cells
 obtain ⟨gb0, gb1, gb2, gb3, gb4⟩ := Hb7.out.cells
 go_wp2_with fail
 refine (shift_at (a + b) c HW.out HAB.out HCC.out HO.out.z0 HZ.out (Kd.C_alloc Ht7.out.l _) Ht7.out.c).mono ?_
 rintro e W8 ⟨v, rfl, Az, cz, rfl, hl, hB⟩; have HLz := Lib.hid hl; clear hl
 have Ht8 := Lib.hid (TBx.below (by repeat (first | exact Ht7.out | apply TBx.alloc)) hB)
 have Hx8 := Lib.hid (TBx.below (by repeat (first | exact Hx7.out | apply TBx.alloc)) hB)
 have Hb8 := Lib.hid (TBx.below (by repeat (first | exact Hb7.out | apply TBx.alloc)) hB)
 have Hy8 := Lib.hid (TBx.below (by repeat (first | exact TBx.new HLy.out.1 HLy.out.2 | apply TBx.alloc)) hB)
 have HBel8 := Lib.hid (below_trans (by repeat (first | exact HBel7.out | apply yF)) hB)
 clear HBel7 Ht7 Hx7 Hb7 gt0 gt1 gt2 gt3 gt4 gx0 gx1 gx2 gx3 gx4 gb0 gb1 gb2 gb3 gb4
 obtain ⟨gt0, gt1, gt2, gt3, gt4⟩ := Ht8.out.cells
 obtain ⟨gx0, gx1, gx2, gx3, gx4⟩ := Hx8.out.cells
 obtain ⟨gb0, gb1, gb2, gb3, gb4⟩ := Hb8.out.cells
 obtain ⟨gy0, gy1, gy2, gy3, gy4⟩ := Hy8.out.cells
 go_wp2_with fail
 refine (rsame_at HNT.out HSTT.out (Kd.C_alloc Hb8.out.l _) Hb8.out.c (Kd.C_alloc Ht8.out.l _) Ht8.out.c).mono ?_
 rintro e W9 ⟨rfl, hB⟩
 have Ht9 := Lib.hid (TBx.below (by repeat (first | exact Ht8.out | apply TBx.alloc)) hB)
 have Hx9 := Lib.hid (TBx.below (by repeat (first | exact Hx8.out | apply TBx.alloc)) hB)
 have Hb9 := Lib.hid (TBx.below (by repeat (first | exact Hb8.out | apply TBx.alloc)) hB)
 have Hy9 := Lib.hid (TBx.below (by repeat (first | exact Hy8.out | apply TBx.alloc)) hB)
 have Hz9 := Lib.hid (TBx.below (by repeat (first | exact TBx.new HLz.out.1 HLz.out.2 | apply TBx.alloc)) hB)
 have HBel9 := Lib.hid (below_trans (by repeat (first | exact HBel8.out | apply yF)) hB)
 clear HBel8 Ht8 Hx8 Hb8 Hy8 gt0 gt1 gt2 gt3 gt4 gx0 gx1 gx2 gx3 gx4 gb0 gb1 gb2 gb3 gb4 gy0 gy1 gy2 gy3 gy4
 obtain ⟨gt0, gt1, gt2, gt3, gt4⟩ := Ht9.out.cells
 obtain ⟨gx0, gx1, gx2, gx3, gx4⟩ := Hx9.out.cells
 obtain ⟨gb0, gb1, gb2, gb3, gb4⟩ := Hb9.out.cells
 obtain ⟨gy0, gy1, gy2, gy3, gy4⟩ := Hy9.out.cells
 obtain ⟨gz0, gz1, gz2, gz3, gz4⟩ := Hz9.out.cells
 go_wp2_with fail
 refine (rsame_at HNZ.out HSZZ.out Hy9.out.l Hy9.out.c Hz9.out.l Hz9.out.c).mono ?_
 rintro e W10 ⟨rfl, hB⟩
 have Ht10 := Lib.hid (TBx.below (by repeat (first | exact Ht9.out | apply TBx.alloc)) hB)
 have Hx10 := Lib.hid (TBx.below (by repeat (first | exact Hx9.out | apply TBx.alloc)) hB)
 have Hb10 := Lib.hid (TBx.below (by repeat (first | exact Hb9.out | apply TBx.alloc)) hB)
 have Hy10 := Lib.hid (TBx.below (by repeat (first | exact Hy9.out | apply TBx.alloc)) hB)
 have Hz10 := Lib.hid (TBx.below (by repeat (first | exact Hz9.out | apply TBx.alloc)) hB)
 have HBel10 := Lib.hid (below_trans (by repeat (first | exact HBel9.out | apply yF)) hB)
 clear HBel9 Ht9 Hx9 Hb9 Hy9 Hz9 gt0 gt1 gt2 gt3 gt4 gx0 gx1 gx2 gx3 gx4 gb0 gb1 gb2 gb3 gb4 gy0 gy1 gy2 gy3 gy4 gz0 gz1 gz2 gz3 gz4
 obtain ⟨gt0, gt1, gt2, gt3, gt4⟩ := Ht10.out.cells
 obtain ⟨gx0, gx1, gx2, gx3, gx4⟩ := Hx10.out.cells
 obtain ⟨gb0, gb1, gb2, gb3, gb4⟩ := Hb10.out.cells
 obtain ⟨gy0, gy1, gy2, gy3, gy4⟩ := Hy10.out.cells
 obtain ⟨gz0, gz1, gz2, gz3, gz4⟩ := Hz10.out.cells
 go_wp2_with fail
 refine (f6_awake.calls true _ rfl).mono ?_
 rintro e W11 ⟨rfl, hB⟩
 have Ht11 := Lib.hid (TBx.below (by repeat (first | exact Ht10.out | apply TBx.alloc)) hB)
 have Hx11 := Lib.hid (TBx.below (by repeat (first | exact Hx10.out | apply TBx.alloc)) hB)
 have Hb11 := Lib.hid (TBx.below (by repeat (first | exact Hb10.out | apply TBx.alloc)) hB)
 have Hy11 := Lib.hid (TBx.below (by repeat (first | exact Hy10.out | apply TBx.alloc)) hB)
 have Hz11 := Lib.hid (TBx.below (by repeat (first | exact Hz10.out | apply TBx.alloc)) hB)
 have HBel11 := Lib.hid (below_trans (by repeat (first | exact HBel10.out | apply yF)) hB)
 clear HBel10 Ht10 Hx10 Hb10 Hy10 Hz10 gt0 gt1 gt2 gt3 gt4 gx0 gx1 gx2 gx3 gx4 gb0 gb1 gb2 gb3 gb4 gy0 gy1 gy2 gy3 gy4 gz0 gz1 gz2 gz3 gz4
 go_wp2_with fail
 go_ret
 exact ⟨rfl, HBel11.out⟩
end Go.Proofs.YtpkkoiljombooaaDoor.G
