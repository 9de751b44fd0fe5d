import Derived.Test.YtpkkoiljombooaaDoorKNm
import Derived.Test.YtpkkoiljombooaaDoorKG0
import Derived.Test.YtpkkoiljombooaaDoorKG1
import Derived.Test.YtpkkoiljombooaaDoorKG2
import Derived.Test.YtpkkoiljombooaaDoorKG6
import Derived.Test.YtpkkoiljombooaaDoorKG7
import Derived.Test.YtpkkoiljombooaaDoorKG8
import Derived.Test.YtpkkoiljombooaaDoorKAw
namespace Go.Proofs.YtpkkoiljombooaaDoor.G
open Go.RowKit Go.Proofs.YtpkkoiljombooaaDoorW.PrintWords Go.Proofs.YtpkkoiljombooaaDoorW.PrintLast Go.Proofs.YtpkkoiljombooaaDoorW.PrintMore
attribute [local go_sem] max2_int min2_int max_two min_two max_three min_three max_four min_four
set_option linter.unusedVariables false
set_option linter.unusedSimpArgs false
mutual
def f5_TermSorts.j0 : Nat → Bool → Bool → Bool → Bool → Int → ByteArray → Int → List (S25) → Option (Bool)
 | 0, _, _, _, _, _, _, _, _ => none
 | k + 1, x6, x7, x8, x49, x385000, x385001, x385002, x385003 => if x49 = true then (some false) else (if x6 = true then (f5_TermSorts.j1 k x6 x7 x8 false x385000 x385001 x385002 x385003) else (if x7 = true then (f5_TermSorts.j1 k x6 x7 x8 false x385000 x385001 x385002 x385003) else (f5_TermSorts.j1 k x6 x7 x8 (!x8) x385000 x385001 x385002 x385003)))
def f5_TermSorts.j1 : Nat → Bool → Bool → Bool → Bool → Int → ByteArray → Int → List (S25) → Option (Bool)
 | 0, _, _, _, _, _, _, _, _ => none
 | k + 1, x6, x7, x8, x59, x385000, x385001, x385002, x385003 => if x59 = true then ((f5_awake.f).bind fun t389 => (some t389)) else (if x385000 = 2 then (if 0 < (x385003.length : Int) then ((term_IsType.f k ((rd_T25 x385003 0).f0) ((rd_T25 x385003 0).f1) ((rd_T25 x385003 0).f2) ((rd_T25 x385003 0).f3)).bind fun t391 => (if t391 = true then (if 1 < (x385003.length : Int) then ((term_IsKind.f k ((rd_T25 x385003 1).f0) ((rd_T25 x385003 1).f1) ((rd_T25 x385003 1).f2) ((rd_T25 x385003 1).f3)).bind fun t393 => (if (t393 == x6) = true then ((term_IsType.f k ((rd_T25 x385003 1).f0) ((rd_T25 x385003 1).f1) ((rd_T25 x385003 1).f2) ((rd_T25 x385003 1).f3)).bind fun t395 => (if (t395 == x7) = true then ((f5_awake.f).bind fun t396 => (some t396)) else (some false))) else (some false))) else (none)) else (some false))) else (none)) else (if x385000 = 3 then (if 0 < (x385003.length : Int) then ((term_IsObject.f k ((rd_T25 x385003 0).f0) ((rd_T25 x385003 0).f1) ((rd_T25 x385003 0).f2) ((rd_T25 x385003 0).f3)).bind fun t398 => (if t398 = true then (if x8 = true then ((f5_awake.f).bind fun t399 => (some t399)) else (some false)) else (some false))) else (none)) else (f5_TermSorts.l0 k 0 x385000 x385001 x385002 x385003)))
def f5_TermSorts.l0 : Nat → Int → Int → ByteArray → Int → List (S25) → Option (Bool)
 | 0, _, _, _, _, _ => none
 | k + 1, x9, x385000, x385001, x385002, x385003 => if x9 < (x385003.length : Int) then (if 0 ≤ x9 then ((term_IsObject.f k ((rd_T25 x385003 x9).f0) ((rd_T25 x385003 x9).f1) ((rd_T25 x385003 x9).f2) ((rd_T25 x385003 x9).f3)).bind fun t401 => (if t401 = true then (f5_TermSorts.l0 k (wrap64 (x9 + 1)) x385000 x385001 x385002 x385003) else (some false))) else (none)) else ((f5_awake.f).bind fun t402 => (some t402))
end
def f5_TermSorts.f (k : Nat) (l0 : List Int) (l1 : List Int) : Option (Bool) := (f5_made.f k l0 l1).bind fun bt378 => ((term_IsKind.f k bt378.1 bt378.2.1 bt378.2.2.1 bt378.2.2.2).bind fun t385 => ((term_IsType.f k bt378.1 bt378.2.1 bt378.2.2.1 bt378.2.2.2).bind fun t386 => ((term_IsObject.f k bt378.1 bt378.2.1 bt378.2.2.1 bt378.2.2.2).bind fun t387 => ((term_WellFormed.f k bt378.1 bt378.2.1 bt378.2.2.1 bt378.2.2.2).bind fun t388 => (if t385 = true then (if ((t388 == 0) != true) = true then (f5_TermSorts.j0 k t385 t386 t387 true bt378.1 bt378.2.1 bt378.2.2.1 bt378.2.2.2) else (if t386 = true then (f5_TermSorts.j0 k t385 t386 t387 true bt378.1 bt378.2.1 bt378.2.2.1 bt378.2.2.2) else (if t387 = true then (f5_TermSorts.j0 k t385 t386 t387 true bt378.1 bt378.2.1 bt378.2.2.1 bt378.2.2.2) else (f5_TermSorts.j0 k t385 t386 t387 false bt378.1 bt378.2.1 bt378.2.2.1 bt378.2.2.2)))) else (if t386 = true then (if ((t388 == 0) != true) = true then (f5_TermSorts.j0 k t385 t386 t387 true bt378.1 bt378.2.1 bt378.2.2.1 bt378.2.2.2) else (if t387 = true then (f5_TermSorts.j0 k t385 t386 t387 (bt378.1 != 4) bt378.1 bt378.2.1 bt378.2.2.1 bt378.2.2.2) else (f5_TermSorts.j0 k t385 t386 t387 false bt378.1 bt378.2.1 bt378.2.2.1 bt378.2.2.2))) else (if ((t388 == 0) != t387) = true then (f5_TermSorts.j0 k t385 t386 t387 true bt378.1 bt378.2.1 bt378.2.2.1 bt378.2.2.2) else (f5_TermSorts.j0 k t385 t386 t387 false bt378.1 bt378.2.1 bt378.2.2.1 bt378.2.2.2))))))))
def f5_TermSorts.T2 : Bool × List (List Nat × List Nat) := (true, [([], []), ([0], [0]), ([], []), ([2, 1], [2]), ([], []), ([4, 3], [4]), ([1, 5, 0, 1], [1]), ([3, 6, 0, 1, 2, 3, 6], [3]), ([5, 7, 0, 1, 2, 3, 4, 5, 6, 7], [5])])
def f5_TermSorts.B2 : List Nat := [0, 1, 0, 7, 0, 31, 63, 127, 255]
theorem f5_TermSorts.tab2 : rtab .any (opsOf Tryd.f6 2) = f5_TermSorts.T2 := by kernel_rfl
theorem f5_TermSorts.bits2 : waitsOk f5_TermSorts.T2.2 f5_TermSorts.B2 = true := by kernel_rfl
set_option maxHeartbeats 8000000 in
set_option maxRecDepth 100000 in
theorem f5_TermSorts.calls (k : Nat) (A0 : Option Addr) (c0 : Nat) (l0 : List Int) (A1 : Option Addr) (c1 : Nat) (l1 : List Int) (r : Bool) (w : World) (hr0 : Kd.C (Kd.int .i64) w A0 l0.length l0) (hc0 : l0.length ≤ c0) (hr1 : Kd.C (Kd.int .i64) w A1 l1.length l1) (hc1 : l1.length ≤ c1) (h : f5_TermSorts.f k l0 l1 = some r) (hN : NamesLaid w) :
  Calls Tryd.prog 6 #[.slice A0 l0.length c0, .slice A1 l1.length c1] w fun e w' => e = .returned (.bool r) ∧ Below w.heap.size w w' := by
 have hu25 := Tryd.underlying25;have HR0 := yJ hr0;have HC0 := yJ hc0;clear hr0 hc0;have HR1 := yJ hr1;have HC1 := yJ hc1;clear hr1 hc1
 have HB := yJ (Below.refl w.heap.size w)
 have H : ((f5_made.f k l0 l1).bind fun bt378 => ((term_IsKind.f k bt378.1 bt378.2.1 bt378.2.2.1 bt378.2.2.2).bind fun t385 => ((term_IsType.f k bt378.1 bt378.2.1 bt378.2.2.1 bt378.2.2.2).bind fun t386 => ((term_IsObject.f k bt378.1 bt378.2.1 bt378.2.2.1 bt378.2.2.2).bind fun t387 => ((term_WellFormed.f k bt378.1 bt378.2.1 bt378.2.2.1 bt378.2.2.2).bind fun t388 => (if t385 = true then (if ((t388 == 0) != true) = true then (f5_TermSorts.j0 k t385 t386 t387 true bt378.1 bt378.2.1 bt378.2.2.1 bt378.2.2.2) else (if t386 = true then (f5_TermSorts.j0 k t385 t386 t387 true bt378.1 bt378.2.1 bt378.2.2.1 bt378.2.2.2) else (if t387 = true then (f5_TermSorts.j0 k t385 t386 t387 true bt378.1 bt378.2.1 bt378.2.2.1 bt378.2.2.2) else (f5_TermSorts.j0 k t385 t386 t387 false bt378.1 bt378.2.1 bt378.2.2.1 bt378.2.2.2)))) else (if t386 = true then (if ((t388 == 0) != true) = true then (f5_TermSorts.j0 k t385 t386 t387 true bt378.1 bt378.2.1 bt378.2.2.1 bt378.2.2.2) else (if t387 = true then (f5_TermSorts.j0 k t385 t386 t387 (bt378.1 != 4) bt378.1 bt378.2.1 bt378.2.2.1 bt378.2.2.2) else (f5_TermSorts.j0 k t385 t386 t387 false bt378.1 bt378.2.1 bt378.2.2.1 bt378.2.2.2))) else (if ((t388 == 0) != t387) = true then (f5_TermSorts.j0 k t385 t386 t387 true bt378.1 bt378.2.1 bt378.2.2.1 bt378.2.2.2) else (f5_TermSorts.j0 k t385 t386 t387 false bt378.1 bt378.2.1 bt378.2.2.1 bt378.2.2.2))))))))) = some r := h
 clear h;replace H := yK H
 obtain ⟨⟨t378, t379, t380, t381⟩, A30, H⟩ := H
 replace H : ((term_IsKind.f k t378 t379 t380 t381).bind fun t385 => ((term_IsType.f k t378 t379 t380 t381).bind fun t386 => ((term_IsObject.f k t378 t379 t380 t381).bind fun t387 => ((term_WellFormed.f k t378 t379 t380 t381).bind fun t388 => (if t385 = true then (if ((t388 == 0) != true) = true then (f5_TermSorts.j0 k t385 t386 t387 true t378 t379 t380 t381) else (if t386 = true then (f5_TermSorts.j0 k t385 t386 t387 true t378 t379 t380 t381) else (if t387 = true then (f5_TermSorts.j0 k t385 t386 t387 true t378 t379 t380 t381) else (f5_TermSorts.j0 k t385 t386 t387 false t378 t379 t380 t381)))) else (if t386 = true then (if ((t388 == 0) != true) = true then (f5_TermSorts.j0 k t385 t386 t387 true t378 t379 t380 t381) else (if t387 = true then (f5_TermSorts.j0 k t385 t386 t387 (t378 != 4) t378 t379 t380 t381) else (f5_TermSorts.j0 k t385 t386 t387 false t378 t379 t380 t381))) else (if ((t388 == 0) != t387) = true then (f5_TermSorts.j0 k t385 t386 t387 true t378 t379 t380 t381) else (f5_TermSorts.j0 k t385 t386 t387 false t378 t379 t380 t381)))))))) = some r := H
 have A3 := yJ A30;clear A30;replace H := yK H;obtain ⟨t385, A40, H⟩ := H
 replace H : ((term_IsType.f k t378 t379 t380 t381).bind fun t386 => ((term_IsObject.f k t378 t379 t380 t381).bind fun t387 => ((term_WellFormed.f k t378 t379 t380 t381).bind fun t388 => (if t385 = true then (if ((t388 == 0) != true) = true then (f5_TermSorts.j0 k t385 t386 t387 true t378 t379 t380 t381) else (if t386 = true then (f5_TermSorts.j0 k t385 t386 t387 true t378 t379 t380 t381) else (if t387 = true then (f5_TermSorts.j0 k t385 t386 t387 true t378 t379 t380 t381) else (f5_TermSorts.j0 k t385 t386 t387 false t378 t379 t380 t381)))) else (if t386 = true then (if ((t388 == 0) != true) = true then (f5_TermSorts.j0 k t385 t386 t387 true t378 t379 t380 t381) else (if t387 = true then (f5_TermSorts.j0 k t385 t386 t387 (t378 != 4) t378 t379 t380 t381) else (f5_TermSorts.j0 k t385 t386 t387 false t378 t379 t380 t381))) else (if ((t388 == 0) != t387) = true then (f5_TermSorts.j0 k t385 t386 t387 true t378 t379 t380 t381) else (f5_TermSorts.j0 k t385 t386 t387 false t378 t379 t380 t381))))))) = some r := H
 have A4 := yJ A40;clear A40;replace H := yK H;obtain ⟨t386, A50, H⟩ := H
 replace H : ((term_IsObject.f k t378 t379 t380 t381).bind fun t387 => ((term_WellFormed.f k t378 t379 t380 t381).bind fun t388 => (if t385 = true then (if ((t388 == 0) != true) = true then (f5_TermSorts.j0 k t385 t386 t387 true t378 t379 t380 t381) else (if t386 = true then (f5_TermSorts.j0 k t385 t386 t387 true t378 t379 t380 t381) else (if t387 = true then (f5_TermSorts.j0 k t385 t386 t387 true t378 t379 t380 t381) else (f5_TermSorts.j0 k t385 t386 t387 false t378 t379 t380 t381)))) else (if t386 = true then (if ((t388 == 0) != true) = true then (f5_TermSorts.j0 k t385 t386 t387 true t378 t379 t380 t381) else (if t387 = true then (f5_TermSorts.j0 k t385 t386 t387 (t378 != 4) t378 t379 t380 t381) else (f5_TermSorts.j0 k t385 t386 t387 false t378 t379 t380 t381))) else (if ((t388 == 0) != t387) = true then (f5_TermSorts.j0 k t385 t386 t387 true t378 t379 t380 t381) else (f5_TermSorts.j0 k t385 t386 t387 false t378 t379 t380 t381)))))) = some r := H
 have A5 := yJ A50;clear A50;replace H := yK H;obtain ⟨t387, A60, H⟩ := H
 replace H : ((term_WellFormed.f k t378 t379 t380 t381).bind fun t388 => (if t385 = true then (if ((t388 == 0) != true) = true then (f5_TermSorts.j0 k t385 t386 t387 true t378 t379 t380 t381) else (if t386 = true then (f5_TermSorts.j0 k t385 t386 t387 true t378 t379 t380 t381) else (if t387 = true then (f5_TermSorts.j0 k t385 t386 t387 true t378 t379 t380 t381) else (f5_TermSorts.j0 k t385 t386 t387 false t378 t379 t380 t381)))) else (if t386 = true then (if ((t388 == 0) != true) = true then (f5_TermSorts.j0 k t385 t386 t387 true t378 t379 t380 t381) else (if t387 = true then (f5_TermSorts.j0 k t385 t386 t387 (t378 != 4) t378 t379 t380 t381) else (f5_TermSorts.j0 k t385 t386 t387 false t378 t379 t380 t381))) else (if ((t388 == 0) != t387) = true then (f5_TermSorts.j0 k t385 t386 t387 true t378 t379 t380 t381) else (f5_TermSorts.j0 k t385 t386 t387 false t378 t379 t380 t381))))) = some r := H
 have A6 := yJ A60;clear A60;have HC7 := yJ H;clear H
 go_enter Tryd.func6, Tryd.ntmps6
 try go_wp2_with (first | ((with_reducible refine gate_callee (f := 17) rfl ?_); refine goesL_ (some 12) rfl rfl Tryd.func17 (by kernel_rfl) rfl #[.slice A0 l0.length c0, .slice A1 l1.length c1] rfl (by (try simp only [List.map_toArray, List.map_cons, List.map_nil]); first | done | rfl | (simp only [List.length_drop, List.length_take]; rfl)) ?_; (with_reducible refine (f5_made.calls k _ _ l0 _ _ l1 t378 t379 t380 t381 _ ?side1 ?side2 ?side3 ?side4 A3.out ?sideN).mono ?_); (case sideN => exact hN.below (by repeat (first | (with_reducible first | exact HB.out | apply yF | apply yG | apply yH) | exact HB.out))); (case side1 => repeat (first | exact HR0.out | (with_reducible refine Kd.C_alloc ?_ _) | (with_reducible refine Kd.C_drewN ?_ _) | (with_reducible refine Kd.C_drew ?_))); (case side2 => exact HC0.out); (case side3 => repeat (first | exact HR1.out | (with_reducible refine Kd.C_alloc ?_ _) | (with_reducible refine Kd.C_drewN ?_ _) | (with_reducible refine Kd.C_drew ?_))); (case side4 => exact HC1.out); rintro e w8 ⟨v382, rfl, ho0, hb⟩; refine ⟨_, rfl, ?_⟩; have n0_ := yJ (Kd.N_lower (Kd.N_mono (ok' := fun k_ => True) ho0 (fun k_ hk_ => trivial)) (below_size (by repeat (first | (with_reducible first | exact HB.out | apply yF | apply yG | apply yH) | exact HB.out)))); have n1_ := yJ (below_step (by repeat (first | (with_reducible first | exact HB.out | apply yF | apply yG | apply yH) | exact HB.out)) hb); clear HB; have HO383 := n0_; have HB := n1_; clear n0_ n1_; (try clear hb); (try clear hb2); (try clear hk); (try clear hi); (try clear ho0)) | ((with_reducible refine gate_dst (N := 5) rfl ?_); refine box_event ?hg (N := 5) ?hd (cs := #[.int .i64 0, .string (⟨#[]⟩ : ByteArray), .int .i64 0, .slice none 0 0]) (t := 25) ?hr ?_; (case hd => rfl); (case hg => rfl); (case hr => first | (go_simp; done) | (go_simp; rfl)); intro gb384 hg w9 hbox hb; have n0_ := yJ (Kd.N_below (Kd.N_elderB (by (with_reducible repeat (first | apply Kd.N_alloc | apply Kd.N_drewN | apply Kd.N_drew)); exact HO383.out) gb384 (Nat.le_of_eq hg.symm)) hb); have n1_ := yJ (below_step (by repeat (first | (with_reducible first | exact HB.out | apply yF | apply yG | apply yH) | exact HB.out)) hb); have n2_ := yJ (hbox); have n3_ := yJ ((by rw [hg]; exact (below_size (by repeat (first | (with_reducible first | exact HB.out | apply yF | apply yG | apply yH) | exact HB.out))) : w.heap.size ≤ gb384)); have n4_ := yJ ((by rw [hg]; exact (below_size (by repeat (first | (with_reducible first | exact HB.out | apply yF | apply yG | apply yH) | exact HB.out))) : w.heap.size ≤ gb384)); clear HO383; clear HB; have HO383 := n0_; have HB := n1_; have BK384 := n2_; have GW384 := n3_; have GE384 := n4_; clear n0_ n1_ n2_ n3_ n4_; clear hb hbox hg; have hcz10_0 : w9.cell? ⟨gb384, 0, none⟩ = some (.int .i64 0) := (yE BK384.out 0).trans rfl; have hcz10_1 : w9.cell? ⟨gb384, 1, none⟩ = some (.string (⟨#[]⟩ : ByteArray)) := (yE BK384.out 1).trans rfl; have hcz10_2 : w9.cell? ⟨gb384, 2, none⟩ = some (.int .i64 0) := (yE BK384.out 2).trans rfl; have hcz10_3 : w9.cell? ⟨gb384, 3, none⟩ = some (.slice none 0 0) := (yE BK384.out 3).trans rfl; have hfz10_0 := yD BK384.out 0; have hfz10_1 := yD BK384.out 1; have hfz10_2 := yD BK384.out 2; have hfz10_3 := yD BK384.out 3; obtain ⟨Ao11, co11, eo11⟩ := Kd.N_slice HO383.out; subst eo11))
 have n0_ : Aside0 (Kd.N k25 25 ((((w9.setCell ⟨gb384, 0, none⟩ (.int .i64 t378)).setCell ⟨gb384, 1, none⟩ (.string t379)).setCell ⟨gb384, 2, none⟩ (.int .i64 t380)).setCell ⟨gb384, 3, none⟩ (.slice Ao11 t381.length co11)) w.heap.size (fun k_ => k_ ≠ gb384) (.slice Ao11 t381.length co11) t381) := ⟨by (with_reducible repeat (first | apply Kd.N_alloc | apply Kd.N_drewN | apply Kd.N_drew)); exact Kd.N_mono (Kd.N_far (p := ⟨gb384, 3, none⟩) (Kd.N_far (p := ⟨gb384, 2, none⟩) (Kd.N_far (p := ⟨gb384, 1, none⟩) (Kd.N_far (p := ⟨gb384, 0, none⟩) (Kd.N_mono HO383.out (fun k_ hk => (⟨hk, hk.2⟩ : _ ∧ k_ ≠ gb384))) (fun _ hk => hk.2) (.int .i64 t378)) (fun _ hk => hk.2) (.string t379)) (fun _ hk => hk.2) (.int .i64 t380)) (fun _ hk => hk.2) (.slice Ao11 t381.length co11)) (fun _ hk => hk.1.2)⟩
 have n1_ : Aside0 (((((w9.setCell ⟨gb384, 0, none⟩ (.int .i64 t378)).setCell ⟨gb384, 1, none⟩ (.string t379)).setCell ⟨gb384, 2, none⟩ (.int .i64 t380)).setCell ⟨gb384, 3, none⟩ (.slice Ao11 t381.length co11)).heap[gb384]? = some (.cells #[.int .i64 t378, .string t379, .int .i64 t380, .slice Ao11 t381.length co11] 25 (0, 0))) := ⟨by (with_reducible repeat (first | refine yA ?_ _ | refine yB ?_ | refine yC ?_ _)); refine blk_put (cs := #[.int .i64 t378, .string t379, .int .i64 t380, .slice none 0 0]) ?_ 3 _ rfl; (with_reducible repeat (first | refine yA ?_ _ | refine yB ?_ | refine yC ?_ _)); refine blk_put (cs := #[.int .i64 t378, .string t379, .int .i64 0, .slice none 0 0]) ?_ 2 _ rfl; (with_reducible repeat (first | refine yA ?_ _ | refine yB ?_ | refine yC ?_ _)); refine blk_put (cs := #[.int .i64 t378, .string (⟨#[]⟩ : ByteArray), .int .i64 0, .slice none 0 0]) ?_ 1 _ rfl; (with_reducible repeat (first | refine yA ?_ _ | refine yB ?_ | refine yC ?_ _)); refine blk_put (cs := #[.int .i64 0, .string (⟨#[]⟩ : ByteArray), .int .i64 0, .slice none 0 0]) ?_ 0 _ rfl; (with_reducible repeat (first | refine yA ?_ _ | refine yB ?_ | refine yC ?_ _)); exact BK384.out⟩
 have n2_ : Aside0 (Below w.heap.size w ((((w9.setCell ⟨gb384, 0, none⟩ (.int .i64 t378)).setCell ⟨gb384, 1, none⟩ (.string t379)).setCell ⟨gb384, 2, none⟩ (.int .i64 t380)).setCell ⟨gb384, 3, none⟩ (.slice Ao11 t381.length co11))) := ⟨by repeat (first | (with_reducible first | exact HB.out | apply yF | apply yG | apply yH | refine yI ?_ GE384.out) | exact HB.out)⟩
 (try clear HO383);(try clear BK384);(try clear HB)
 generalize ((((w9.setCell ⟨gb384, 0, none⟩ (.int .i64 t378)).setCell ⟨gb384, 1, none⟩ (.string t379)).setCell ⟨gb384, 2, none⟩ (.int .i64 t380)).setCell ⟨gb384, 3, none⟩ (.slice Ao11 t381.length co11)) = w12 at n0_ n1_ n2_ ⊢
 have HO383 := n0_;have BK384 := n1_;have HB := n2_;clear n0_ n1_ n2_
 have n0_ := yJ (Kd.N_drew HO383.out)
 have n1_ := yJ (yB BK384.out)
 have n2_ := yJ (yH HB.out)
 clear HO383 BK384 HB;have HO383 := n0_;have BK384 := n1_;have HB := n2_;clear n0_ n1_ n2_
 refine start_ (n := 9) (S := fun w' => w'.cell? ⟨gb384, 0, none⟩ = some (.int .i64 t378) ∧ w'.cell? ⟨gb384, 1, none⟩ = some (.string t379) ∧ w'.cell? ⟨gb384, 2, none⟩ = some (.int .i64 t380) ∧ w'.cell? ⟨gb384, 3, none⟩ = some (.slice Ao11 t381.length co11)) (ds := []) #[false, false, false, false, false, false, false, false, false] (by kernel_rfl) rfl rfl ⟨(yE BK384.out 0).trans rfl, (yE BK384.out 1).trans rfl, (yE BK384.out 2).trans rfl, (yE BK384.out 3).trans rfl⟩ (fun hHeld => ?_); refine with_tabW f5_TermSorts.tab2 f5_TermSorts.bits2 (fun HT_ HW_ => ?_)
 generalize w12.drew = w13 at HO383 BK384 HB hHeld ⊢
 refine take_ (i := 0) (N := some 13) (v := ?_) (a' := ?_) #[true, false, false, false, false, false, false, false, false] rfl rfl (take_ofW HT_.out HW_.out (by kernel_rfl)) (fun _ _ _ h => h) (Or.inl ⟨by rfl, ?_⟩) hHeld ?_ ?_
 rotate_left
 ·rintro w' ⟨s0, s1, s2, s3⟩
  go_simp;with_reducible rfl
 rotate_left
 ·simp only [Act.put, List.setIfInBounds_toArray, List.set_cons_zero, List.set_cons_succ, i64_w, i32_w]
  rfl
 refine take_ (i := 2) (N := some 15) (v := ?_) (a' := ?_) #[true, false, true, false, false, false, false, false, false] rfl rfl (take_ofW HT_.out HW_.out (by kernel_rfl)) (fun _ _ _ h => h) (Or.inl ⟨by rfl, ?_⟩) hHeld ?_ ?_
 rotate_left
 ·rintro w' ⟨s0, s1, s2, s3⟩
  go_simp;with_reducible rfl
 rotate_left
 ·simp only [Act.put, List.setIfInBounds_toArray, List.set_cons_zero, List.set_cons_succ, i64_w, i32_w]
  rfl
 refine take_ (i := 4) (N := some 17) (v := ?_) (a' := ?_) #[true, false, true, false, true, false, false, false, false] rfl rfl (take_ofW HT_.out HW_.out (by kernel_rfl)) (fun _ _ _ h => h) (Or.inl ⟨by rfl, ?_⟩) hHeld ?_ ?_
 rotate_left
 ·rintro w' ⟨s0, s1, s2, s3⟩
  go_simp;with_reducible rfl
 rotate_left
 ·simp only [Act.put, List.setIfInBounds_toArray, List.set_cons_zero, List.set_cons_succ, i64_w, i32_w]
  rfl
 refine one_ (i := 1) (N := some 14) #[true, true, true, false, true, false, false, false, false] rfl rfl (one_of HT_.out (by kernel_rfl)) (by decide) (fun K hK => ?_)
 refine goes_ Tryd.func21 (by kernel_rfl) rfl #[.agg #[.int .i64 t378, .string t379, .int .i64 t380, .slice Ao11 t381.length co11]] (by rfl) rfl rfl (by (try simp only [List.map_toArray, List.map_cons, List.map_nil]); first | done | rfl | (simp only [List.length_drop, List.length_take]; rfl)) ?_
 with_reducible refine (term_IsKind.calls k t378 t379 t380 _ _ t381 t385 _ ?side1 ?side2 A4.out).mono ?_
 (case side1 => repeat (first | exact (Kd.N_reads' HO383.out).2.2 | (with_reducible refine Kd.C_alloc ?_ _) | (with_reducible refine Kd.C_drewN ?_ _) | (with_reducible refine Kd.C_drew ?_)))
 (case side2 => exact (Kd.N_reads' HO383.out).2.1)
 rintro e w14 ⟨rfl, hb⟩
 refine ⟨_, rfl, ?_⟩
 have n0_ := yJ (Kd.N_below (by (with_reducible repeat (first | apply Kd.N_alloc | apply Kd.N_drewN | apply Kd.N_drew)); exact HO383.out) hb)
 have n1_ := yJ (blk_below (g := gb384) (o := .cells #[.int .i64 t378, .string t379, .int .i64 t380, .slice Ao11 t381.length co11] 25 (0, 0)) (by (with_reducible repeat (first | refine yA ?_ _ | refine yB ?_ | refine yC ?_ _)); exact BK384.out) hb)
 have n2_ := yJ (below_step (by repeat (first | (with_reducible first | exact HB.out | apply yF | apply yG | apply yH | refine yI ?_ GE384.out) | exact HB.out)) hb)
 clear HO383 BK384 HB;have HO383 := n0_;have BK384 := n1_;have HB := n2_;clear n0_ n1_ n2_;(try clear hb);(try clear hb2);(try clear hk);(try clear hi)
 refine hK.out _ _ ⟨(yE BK384.out 0).trans rfl, (yE BK384.out 1).trans rfl, (yE BK384.out 2).trans rfl, (yE BK384.out 3).trans rfl⟩ (fun hHeld => ?_)
 clear hK K
 refine norm_ (a' := ?_) ?_ ?_
 rotate_left
 ·show Act.put _ (some 14) _ = _
  simp only [Act.put, List.setIfInBounds_toArray, List.set_cons_zero, List.set_cons_succ, i64_w, i32_w]
  rfl
 refine one_ (i := 3) (N := some 16) #[true, true, true, true, true, false, false, false, false] rfl rfl (one_of HT_.out (by kernel_rfl)) (by decide) (fun K hK => ?_)
 refine goes_ Tryd.func23 (by kernel_rfl) rfl #[.agg #[.int .i64 t378, .string t379, .int .i64 t380, .slice Ao11 t381.length co11]] (by rfl) rfl rfl (by (try simp only [List.map_toArray, List.map_cons, List.map_nil]); first | done | rfl | (simp only [List.length_drop, List.length_take]; rfl)) ?_
 with_reducible refine (term_IsType.calls k t378 t379 t380 _ _ t381 t386 _ ?side1 ?side2 A5.out).mono ?_
 (case side1 => repeat (first | exact (Kd.N_reads' HO383.out).2.2 | (with_reducible refine Kd.C_alloc ?_ _) | (with_reducible refine Kd.C_drewN ?_ _) | (with_reducible refine Kd.C_drew ?_)))
 (case side2 => exact (Kd.N_reads' HO383.out).2.1)
 rintro e w15 ⟨rfl, hb⟩
 refine ⟨_, rfl, ?_⟩
 have n0_ := yJ (Kd.N_below (by (with_reducible repeat (first | apply Kd.N_alloc | apply Kd.N_drewN | apply Kd.N_drew)); exact HO383.out) hb)
 have n1_ := yJ (blk_below (g := gb384) (o := .cells #[.int .i64 t378, .string t379, .int .i64 t380, .slice Ao11 t381.length co11] 25 (0, 0)) (by (with_reducible repeat (first | refine yA ?_ _ | refine yB ?_ | refine yC ?_ _)); exact BK384.out) hb)
 have n2_ := yJ (below_step (by repeat (first | (with_reducible first | exact HB.out | apply yF | apply yG | apply yH | refine yI ?_ GE384.out) | exact HB.out)) hb)
 clear HO383 BK384 HB;have HO383 := n0_;have BK384 := n1_;have HB := n2_;clear n0_ n1_ n2_;(try clear hb);(try clear hb2);(try clear hk);(try clear hi)
 refine hK.out _ _ ⟨(yE BK384.out 0).trans rfl, (yE BK384.out 1).trans rfl, (yE BK384.out 2).trans rfl, (yE BK384.out 3).trans rfl⟩ (fun hHeld => ?_)
 clear hK K
 refine norm_ (a' := ?_) ?_ ?_
 rotate_left
 ·show Act.put _ (some 16) _ = _
  simp only [Act.put, List.setIfInBounds_toArray, List.set_cons_zero, List.set_cons_succ, i64_w, i32_w]
  rfl
 refine one_ (i := 5) (N := some 18) #[true, true, true, true, true, true, false, false, false] rfl rfl (one_of HT_.out (by kernel_rfl)) (by decide) (fun K hK => ?_)
 refine goes_ Tryd.func25 (by kernel_rfl) rfl #[.agg #[.int .i64 t378, .string t379, .int .i64 t380, .slice Ao11 t381.length co11]] (by rfl) rfl rfl (by (try simp only [List.map_toArray, List.map_cons, List.map_nil]); first | done | rfl | (simp only [List.length_drop, List.length_take]; rfl)) ?_
 with_reducible refine (term_IsObject.calls k t378 t379 t380 _ _ t381 t387 _ ?side1 ?side2 A6.out).mono ?_
 (case side1 => repeat (first | exact (Kd.N_reads' HO383.out).2.2 | (with_reducible refine Kd.C_alloc ?_ _) | (with_reducible refine Kd.C_drewN ?_ _) | (with_reducible refine Kd.C_drew ?_)))
 (case side2 => exact (Kd.N_reads' HO383.out).2.1)
 rintro e w16 ⟨rfl, hb⟩
 refine ⟨_, rfl, ?_⟩
 have n0_ := yJ (Kd.N_below (by (with_reducible repeat (first | apply Kd.N_alloc | apply Kd.N_drewN | apply Kd.N_drew)); exact HO383.out) hb)
 have n1_ := yJ (blk_below (g := gb384) (o := .cells #[.int .i64 t378, .string t379, .int .i64 t380, .slice Ao11 t381.length co11] 25 (0, 0)) (by (with_reducible repeat (first | refine yA ?_ _ | refine yB ?_ | refine yC ?_ _)); exact BK384.out) hb)
 have n2_ := yJ (below_step (by repeat (first | (with_reducible first | exact HB.out | apply yF | apply yG | apply yH | refine yI ?_ GE384.out) | exact HB.out)) hb)
 clear HO383 BK384 HB;have HO383 := n0_;have BK384 := n1_;have HB := n2_;clear n0_ n1_ n2_;(try clear hb);(try clear hb2);(try clear hk);(try clear hi)
 refine hK.out _ _ ⟨(yE BK384.out 0).trans rfl, (yE BK384.out 1).trans rfl, (yE BK384.out 2).trans rfl, (yE BK384.out 3).trans rfl⟩ (fun hHeld => ?_)
 clear hK K
 refine norm_ (a' := ?_) ?_ ?_
 rotate_left
 ·show Act.put _ (some 18) _ = _
  simp only [Act.put, List.setIfInBounds_toArray, List.set_cons_zero, List.set_cons_succ, i64_w, i32_w]
  rfl
 refine pure_ (i := 6) (N := some 6) (v := ?_) (a' := ?_) #[true, true, true, true, true, true, true, false, false] rfl rfl (any_of HT_.out (by kernel_rfl)) (fun _ _ _ h => h) (Or.inl ⟨by rfl, ?_⟩) ?_ ?_
 rotate_left
 ·intro w'
  go_simp;with_reducible rfl
 rotate_left
 ·simp only [Act.put, List.setIfInBounds_toArray, List.set_cons_zero, List.set_cons_succ, i64_w, i32_w]
  rfl
 refine pure_ (i := 7) (N := some 7) (v := ?_) (a' := ?_) #[true, true, true, true, true, true, true, true, false] rfl rfl (any_of HT_.out (by kernel_rfl)) (fun _ _ _ h => h) (Or.inl ⟨by rfl, ?_⟩) ?_ ?_
 rotate_left
 ·intro w'
  go_simp;with_reducible rfl
 rotate_left
 ·simp only [Act.put, List.setIfInBounds_toArray, List.set_cons_zero, List.set_cons_succ, i64_w, i32_w]
  rfl
 refine pure_ (i := 8) (N := some 8) (v := ?_) (a' := ?_) #[true, true, true, true, true, true, true, true, true] rfl rfl (any_of HT_.out (by kernel_rfl)) (fun _ _ _ h => h) (Or.inl ⟨by rfl, ?_⟩) ?_ ?_
 rotate_left
 ·intro w'
  go_simp;with_reducible rfl
 rotate_left
 ·simp only [Act.put, List.setIfInBounds_toArray, List.set_cons_zero, List.set_cons_succ, i64_w, i32_w]
  rfl
 refine done_ (done_of HT_.out (by kernel_rfl)) ?_
 go_upto_region 3 with (fail)
 go_cut [49] (fun v49 wc => ∃ (kq : Nat) (x49_6 : Bool), v49 = .bool x49_6 ∧ Aside0 (f5_TermSorts.j0 kq t385 t386 t387 x49_6 t378 t379 t380 t381 = some r) ∧ Aside0 (kq ≤ k) ∧ Aside0 (Kd.N k25 25 wc w.heap.size (fun k_ => k_ ≠ gb384) (.slice Ao11 t381.length co11) t381) ∧ Aside0 (wc.heap[gb384]? = some (.cells #[.int .i64 t378, .string t379, .int .i64 t380, (.slice Ao11 t381.length co11)] 25 (0, 0))) ∧ Aside0 (Below w.heap.size w wc))
 case first =>
  have H := HC7.out;clear HC7;replace H := yK H;obtain ⟨t388, A170, H⟩ := H
  replace H : (if t385 = true then (if ((t388 == 0) != true) = true then (f5_TermSorts.j0 k t385 t386 t387 true t378 t379 t380 t381) else (if t386 = true then (f5_TermSorts.j0 k t385 t386 t387 true t378 t379 t380 t381) else (if t387 = true then (f5_TermSorts.j0 k t385 t386 t387 true t378 t379 t380 t381) else (f5_TermSorts.j0 k t385 t386 t387 false t378 t379 t380 t381)))) else (if t386 = true then (if ((t388 == 0) != true) = true then (f5_TermSorts.j0 k t385 t386 t387 true t378 t379 t380 t381) else (if t387 = true then (f5_TermSorts.j0 k t385 t386 t387 (t378 != 4) t378 t379 t380 t381) else (f5_TermSorts.j0 k t385 t386 t387 false t378 t379 t380 t381))) else (if ((t388 == 0) != t387) = true then (f5_TermSorts.j0 k t385 t386 t387 true t378 t379 t380 t381) else (f5_TermSorts.j0 k t385 t386 t387 false t378 t379 t380 t381)))) = some r := H
  have A17 := yJ A170;clear A170
  by_cases c18 : t385 = true
  ·subst c18
   have H1 : (if ((t388 == 0) != true) = true then (f5_TermSorts.j0 k true t386 t387 true t378 t379 t380 t381) else (if t386 = true then (f5_TermSorts.j0 k true t386 t387 true t378 t379 t380 t381) else (if t387 = true then (f5_TermSorts.j0 k true t386 t387 true t378 t379 t380 t381) else (f5_TermSorts.j0 k true t386 t387 false t378 t379 t380 t381)))) = some r := by rw [if_pos rfl] at H; exact H
   clear H;have H := H1;clear H1
   by_cases c19 : ((t388 == 0) != true) = true
   ·rw [if_pos c19] at H
    have c19b0 : ((t388 == 0) != true) = true := c19
    (try (have c19b1 : decide ((t388 == 0) = true) = false := by simpa using c19))
    (try (have c19b2 : ((t388 == 0) == true) = false := by simpa using c19))
    (try (have c19b3 : ¬ ((t388 == 0) = true) := by simpa using c19))
    clear c19
    (first | rw [c19b0] | (simp only [i64_w, i32_w]; rw [c19b0]) | skip)
    have H' := yJ H
    clear H
    have hcz20_0 : w16.cell? ⟨gb384, 0, none⟩ = some (.int .i64 t378) := (yE BK384.out 0).trans rfl
    have hcz20_1 : w16.cell? ⟨gb384, 1, none⟩ = some (.string t379) := (yE BK384.out 1).trans rfl
    have hcz20_2 : w16.cell? ⟨gb384, 2, none⟩ = some (.int .i64 t380) := (yE BK384.out 2).trans rfl
    have hcz20_3 : w16.cell? ⟨gb384, 3, none⟩ = some (.slice Ao11 t381.length co11) := (yE BK384.out 3).trans rfl
    have hfz20_0 := yD BK384.out 0
    have hfz20_1 := yD BK384.out 1
    have hfz20_2 := yD BK384.out 2
    have hfz20_3 := yD BK384.out 3
    go_wp2_with (first | ((with_reducible refine gate_callee (f := 19) rfl ?_); refine goesL_ (some 20) rfl rfl Tryd.func19 (by kernel_rfl) rfl #[.agg #[.int .i64 t378, .string t379, .int .i64 t380, .slice Ao11 t381.length co11]] rfl (by (try simp only [List.map_toArray, List.map_cons, List.map_nil]); first | done | rfl | (simp only [List.length_drop, List.length_take]; rfl)) ?_; (with_reducible refine (term_WellFormed.calls k t378 t379 t380 _ _ t381 t388 _ ?side1 ?side2 A17.out).mono ?_); (case side1 => repeat (first | exact (Kd.N_reads' HO383.out).2.2 | (with_reducible refine Kd.C_alloc ?_ _) | (with_reducible refine Kd.C_drewN ?_ _) | (with_reducible refine Kd.C_drew ?_))); (case side2 => exact (Kd.N_reads' HO383.out).2.1); rintro e w21 ⟨rfl, hb⟩; refine ⟨_, rfl, ?_⟩; have n0_ := yJ (Kd.N_below (by (with_reducible repeat (first | apply Kd.N_alloc | apply Kd.N_drewN | apply Kd.N_drew)); exact HO383.out) hb); have n1_ := yJ (blk_below (g := gb384) (o := .cells #[.int .i64 t378, .string t379, .int .i64 t380, .slice Ao11 t381.length co11] 25 (0, 0)) (by (with_reducible repeat (first | refine yA ?_ _ | refine yB ?_ | refine yC ?_ _)); exact BK384.out) hb); have n2_ := yJ (below_step (by repeat (first | (with_reducible first | exact HB.out | apply yF | apply yG | apply yH | refine yI ?_ GE384.out) | exact HB.out)) hb); clear HO383; clear BK384; clear HB; have HO383 := n0_; have BK384 := n1_; have HB := n2_; clear n0_ n1_ n2_; (try clear hb); (try clear hb2); (try clear hk); (try clear hi)))
    go_meet
    case rel => exact ⟨_, (true), (by first | rfl | (simp; done) | (simp [*]; done)), H', ⟨by first | omega | exact Nat.le_refl _⟩, ⟨by (with_reducible repeat (first | apply Kd.N_alloc | apply Kd.N_drewN | apply Kd.N_drew)); exact HO383.out⟩, ⟨by (with_reducible repeat (first | refine yA ?_ _ | refine yB ?_ | refine yC ?_ _)); exact BK384.out⟩, ⟨by repeat (first | (with_reducible first | exact HB.out | apply yF | apply yG | apply yH | refine yI ?_ GE384.out) | exact HB.out)⟩⟩
   ·rw [if_neg c19] at H
    have c19b0 : ((t388 == 0) != true) = false := by simpa using c19
    (try (have c19b1 : decide ((t388 == 0) = true) = true := by simpa using c19))
    (try (have c19b2 : ((t388 == 0) == true) = true := by simpa using c19))
    clear c19
    (first | rw [c19b0] | (simp only [i64_w, i32_w]; rw [c19b0]) | skip)
    by_cases c22 : t386 = true
    ·subst c22
     have H1 : (f5_TermSorts.j0 k true true t387 true t378 t379 t380 t381) = some r := by rw [if_pos rfl] at H; exact H
     clear H;have H := H1;clear H1
     have H' := yJ H
     clear H
     have hcz23_0 : w16.cell? ⟨gb384, 0, none⟩ = some (.int .i64 t378) := (yE BK384.out 0).trans rfl
     have hcz23_1 : w16.cell? ⟨gb384, 1, none⟩ = some (.string t379) := (yE BK384.out 1).trans rfl
     have hcz23_2 : w16.cell? ⟨gb384, 2, none⟩ = some (.int .i64 t380) := (yE BK384.out 2).trans rfl
     have hcz23_3 : w16.cell? ⟨gb384, 3, none⟩ = some (.slice Ao11 t381.length co11) := (yE BK384.out 3).trans rfl
     have hfz23_0 := yD BK384.out 0
     have hfz23_1 := yD BK384.out 1
     have hfz23_2 := yD BK384.out 2
     have hfz23_3 := yD BK384.out 3
     go_wp2_with (first | ((with_reducible refine gate_callee (f := 19) rfl ?_); refine goesL_ (some 20) rfl rfl Tryd.func19 (by kernel_rfl) rfl #[.agg #[.int .i64 t378, .string t379, .int .i64 t380, .slice Ao11 t381.length co11]] rfl (by (try simp only [List.map_toArray, List.map_cons, List.map_nil]); first | done | rfl | (simp only [List.length_drop, List.length_take]; rfl)) ?_; (with_reducible refine (term_WellFormed.calls k t378 t379 t380 _ _ t381 t388 _ ?side1 ?side2 A17.out).mono ?_); (case side1 => repeat (first | exact (Kd.N_reads' HO383.out).2.2 | (with_reducible refine Kd.C_alloc ?_ _) | (with_reducible refine Kd.C_drewN ?_ _) | (with_reducible refine Kd.C_drew ?_))); (case side2 => exact (Kd.N_reads' HO383.out).2.1); rintro e w24 ⟨rfl, hb⟩; refine ⟨_, rfl, ?_⟩; have n0_ := yJ (Kd.N_below (by (with_reducible repeat (first | apply Kd.N_alloc | apply Kd.N_drewN | apply Kd.N_drew)); exact HO383.out) hb); have n1_ := yJ (blk_below (g := gb384) (o := .cells #[.int .i64 t378, .string t379, .int .i64 t380, .slice Ao11 t381.length co11] 25 (0, 0)) (by (with_reducible repeat (first | refine yA ?_ _ | refine yB ?_ | refine yC ?_ _)); exact BK384.out) hb); have n2_ := yJ (below_step (by repeat (first | (with_reducible first | exact HB.out | apply yF | apply yG | apply yH | refine yI ?_ GE384.out) | exact HB.out)) hb); clear HO383; clear BK384; clear HB; have HO383 := n0_; have BK384 := n1_; have HB := n2_; clear n0_ n1_ n2_; (try clear hb); (try clear hb2); (try clear hk); (try clear hi)))
     go_meet
     case rel => exact ⟨_, (true), (by first | rfl | (simp; done) | (simp [*]; done)), H', ⟨by first | omega | exact Nat.le_refl _⟩, ⟨by (with_reducible repeat (first | apply Kd.N_alloc | apply Kd.N_drewN | apply Kd.N_drew)); exact HO383.out⟩, ⟨by (with_reducible repeat (first | refine yA ?_ _ | refine yB ?_ | refine yC ?_ _)); exact BK384.out⟩, ⟨by repeat (first | (with_reducible first | exact HB.out | apply yF | apply yG | apply yH | refine yI ?_ GE384.out) | exact HB.out)⟩⟩
    ·replace c22 := Bool.eq_false_iff.mpr c22
     subst c22
     have H1 : (if t387 = true then (f5_TermSorts.j0 k true false t387 true t378 t379 t380 t381) else (f5_TermSorts.j0 k true false t387 false t378 t379 t380 t381)) = some r := by rw [if_neg (show ¬ (false = true) by decide)] at H; exact H
     clear H;have H := H1;clear H1
     by_cases c25 : t387 = true
     ·subst c25
      have H1 : (f5_TermSorts.j0 k true false true true t378 t379 t380 t381) = some r := by rw [if_pos rfl] at H; exact H
      clear H;have H := H1;clear H1
      have H' := yJ H
      clear H
      have hcz26_0 : w16.cell? ⟨gb384, 0, none⟩ = some (.int .i64 t378) := (yE BK384.out 0).trans rfl
      have hcz26_1 : w16.cell? ⟨gb384, 1, none⟩ = some (.string t379) := (yE BK384.out 1).trans rfl
      have hcz26_2 : w16.cell? ⟨gb384, 2, none⟩ = some (.int .i64 t380) := (yE BK384.out 2).trans rfl
      have hcz26_3 : w16.cell? ⟨gb384, 3, none⟩ = some (.slice Ao11 t381.length co11) := (yE BK384.out 3).trans rfl
      have hfz26_0 := yD BK384.out 0
      have hfz26_1 := yD BK384.out 1
      have hfz26_2 := yD BK384.out 2
      have hfz26_3 := yD BK384.out 3
      go_wp2_with (first | ((with_reducible refine gate_callee (f := 19) rfl ?_); refine goesL_ (some 20) rfl rfl Tryd.func19 (by kernel_rfl) rfl #[.agg #[.int .i64 t378, .string t379, .int .i64 t380, .slice Ao11 t381.length co11]] rfl (by (try simp only [List.map_toArray, List.map_cons, List.map_nil]); first | done | rfl | (simp only [List.length_drop, List.length_take]; rfl)) ?_; (with_reducible refine (term_WellFormed.calls k t378 t379 t380 _ _ t381 t388 _ ?side1 ?side2 A17.out).mono ?_); (case side1 => repeat (first | exact (Kd.N_reads' HO383.out).2.2 | (with_reducible refine Kd.C_alloc ?_ _) | (with_reducible refine Kd.C_drewN ?_ _) | (with_reducible refine Kd.C_drew ?_))); (case side2 => exact (Kd.N_reads' HO383.out).2.1); rintro e w27 ⟨rfl, hb⟩; refine ⟨_, rfl, ?_⟩; have n0_ := yJ (Kd.N_below (by (with_reducible repeat (first | apply Kd.N_alloc | apply Kd.N_drewN | apply Kd.N_drew)); exact HO383.out) hb); have n1_ := yJ (blk_below (g := gb384) (o := .cells #[.int .i64 t378, .string t379, .int .i64 t380, .slice Ao11 t381.length co11] 25 (0, 0)) (by (with_reducible repeat (first | refine yA ?_ _ | refine yB ?_ | refine yC ?_ _)); exact BK384.out) hb); have n2_ := yJ (below_step (by repeat (first | (with_reducible first | exact HB.out | apply yF | apply yG | apply yH | refine yI ?_ GE384.out) | exact HB.out)) hb); clear HO383; clear BK384; clear HB; have HO383 := n0_; have BK384 := n1_; have HB := n2_; clear n0_ n1_ n2_; (try clear hb); (try clear hb2); (try clear hk); (try clear hi)))
      go_meet
      case rel => exact ⟨_, (true), (by first | rfl | (simp; done) | (simp [*]; done)), H', ⟨by first | omega | exact Nat.le_refl _⟩, ⟨by (with_reducible repeat (first | apply Kd.N_alloc | apply Kd.N_drewN | apply Kd.N_drew)); exact HO383.out⟩, ⟨by (with_reducible repeat (first | refine yA ?_ _ | refine yB ?_ | refine yC ?_ _)); exact BK384.out⟩, ⟨by repeat (first | (with_reducible first | exact HB.out | apply yF | apply yG | apply yH | refine yI ?_ GE384.out) | exact HB.out)⟩⟩
     ·replace c25 := Bool.eq_false_iff.mpr c25
      subst c25
      have H1 : (f5_TermSorts.j0 k true false false false t378 t379 t380 t381) = some r := by rw [if_neg (show ¬ (false = true) by decide)] at H; exact H
      clear H;have H := H1;clear H1
      have H' := yJ H
      clear H
      have hcz28_0 : w16.cell? ⟨gb384, 0, none⟩ = some (.int .i64 t378) := (yE BK384.out 0).trans rfl
      have hcz28_1 : w16.cell? ⟨gb384, 1, none⟩ = some (.string t379) := (yE BK384.out 1).trans rfl
      have hcz28_2 : w16.cell? ⟨gb384, 2, none⟩ = some (.int .i64 t380) := (yE BK384.out 2).trans rfl
      have hcz28_3 : w16.cell? ⟨gb384, 3, none⟩ = some (.slice Ao11 t381.length co11) := (yE BK384.out 3).trans rfl
      have hfz28_0 := yD BK384.out 0
      have hfz28_1 := yD BK384.out 1
      have hfz28_2 := yD BK384.out 2
      have hfz28_3 := yD BK384.out 3
      go_wp2_with (first | ((with_reducible refine gate_callee (f := 19) rfl ?_); refine goesL_ (some 20) rfl rfl Tryd.func19 (by kernel_rfl) rfl #[.agg #[.int .i64 t378, .string t379, .int .i64 t380, .slice Ao11 t381.length co11]] rfl (by (try simp only [List.map_toArray, List.map_cons, List.map_nil]); first | done | rfl | (simp only [List.length_drop, List.length_take]; rfl)) ?_; (with_reducible refine (term_WellFormed.calls k t378 t379 t380 _ _ t381 t388 _ ?side1 ?side2 A17.out).mono ?_); (case side1 => repeat (first | exact (Kd.N_reads' HO383.out).2.2 | (with_reducible refine Kd.C_alloc ?_ _) | (with_reducible refine Kd.C_drewN ?_ _) | (with_reducible refine Kd.C_drew ?_))); (case side2 => exact (Kd.N_reads' HO383.out).2.1); rintro e w29 ⟨rfl, hb⟩; refine ⟨_, rfl, ?_⟩; have n0_ := yJ (Kd.N_below (by (with_reducible repeat (first | apply Kd.N_alloc | apply Kd.N_drewN | apply Kd.N_drew)); exact HO383.out) hb); have n1_ := yJ (blk_below (g := gb384) (o := .cells #[.int .i64 t378, .string t379, .int .i64 t380, .slice Ao11 t381.length co11] 25 (0, 0)) (by (with_reducible repeat (first | refine yA ?_ _ | refine yB ?_ | refine yC ?_ _)); exact BK384.out) hb); have n2_ := yJ (below_step (by repeat (first | (with_reducible first | exact HB.out | apply yF | apply yG | apply yH | refine yI ?_ GE384.out) | exact HB.out)) hb); clear HO383; clear BK384; clear HB; have HO383 := n0_; have BK384 := n1_; have HB := n2_; clear n0_ n1_ n2_; (try clear hb); (try clear hb2); (try clear hk); (try clear hi)))
      go_meet
      case rel => exact ⟨_, (false), (by first | rfl | (simp; done) | (simp [*]; done)), H', ⟨by first | omega | exact Nat.le_refl _⟩, ⟨by (with_reducible repeat (first | apply Kd.N_alloc | apply Kd.N_drewN | apply Kd.N_drew)); exact HO383.out⟩, ⟨by (with_reducible repeat (first | refine yA ?_ _ | refine yB ?_ | refine yC ?_ _)); exact BK384.out⟩, ⟨by repeat (first | (with_reducible first | exact HB.out | apply yF | apply yG | apply yH | refine yI ?_ GE384.out) | exact HB.out)⟩⟩
  ·replace c18 := Bool.eq_false_iff.mpr c18
   subst c18
   have H1 : (if t386 = true then (if ((t388 == 0) != true) = true then (f5_TermSorts.j0 k false t386 t387 true t378 t379 t380 t381) else (if t387 = true then (f5_TermSorts.j0 k false t386 t387 (t378 != 4) t378 t379 t380 t381) else (f5_TermSorts.j0 k false t386 t387 false t378 t379 t380 t381))) else (if ((t388 == 0) != t387) = true then (f5_TermSorts.j0 k false t386 t387 true t378 t379 t380 t381) else (f5_TermSorts.j0 k false t386 t387 false t378 t379 t380 t381))) = some r := by rw [if_neg (show ¬ (false = true) by decide)] at H; exact H
   clear H;have H := H1;clear H1
   by_cases c30 : t386 = true
   ·subst c30
    have H1 : (if ((t388 == 0) != true) = true then (f5_TermSorts.j0 k false true t387 true t378 t379 t380 t381) else (if t387 = true then (f5_TermSorts.j0 k false true t387 (t378 != 4) t378 t379 t380 t381) else (f5_TermSorts.j0 k false true t387 false t378 t379 t380 t381))) = some r := by rw [if_pos rfl] at H; exact H
    clear H;have H := H1;clear H1
    by_cases c31 : ((t388 == 0) != true) = true
    ·rw [if_pos c31] at H
     have c31b0 : ((t388 == 0) != true) = true := c31
     (try (have c31b1 : decide ((t388 == 0) = true) = false := by simpa using c31))
     (try (have c31b2 : ((t388 == 0) == true) = false := by simpa using c31))
     (try (have c31b3 : ¬ ((t388 == 0) = true) := by simpa using c31))
     clear c31
     have H' := yJ H
     clear H
     have hcz32_0 : w16.cell? ⟨gb384, 0, none⟩ = some (.int .i64 t378) := (yE BK384.out 0).trans rfl
     have hcz32_1 : w16.cell? ⟨gb384, 1, none⟩ = some (.string t379) := (yE BK384.out 1).trans rfl
     have hcz32_2 : w16.cell? ⟨gb384, 2, none⟩ = some (.int .i64 t380) := (yE BK384.out 2).trans rfl
     have hcz32_3 : w16.cell? ⟨gb384, 3, none⟩ = some (.slice Ao11 t381.length co11) := (yE BK384.out 3).trans rfl
     have hfz32_0 := yD BK384.out 0
     have hfz32_1 := yD BK384.out 1
     have hfz32_2 := yD BK384.out 2
     have hfz32_3 := yD BK384.out 3
     go_wp2_with (first | ((with_reducible refine gate_callee (f := 19) rfl ?_); refine goesL_ (some 20) rfl rfl Tryd.func19 (by kernel_rfl) rfl #[.agg #[.int .i64 t378, .string t379, .int .i64 t380, .slice Ao11 t381.length co11]] rfl (by (try simp only [List.map_toArray, List.map_cons, List.map_nil]); first | done | rfl | (simp only [List.length_drop, List.length_take]; rfl)) ?_; (with_reducible refine (term_WellFormed.calls k t378 t379 t380 _ _ t381 t388 _ ?side1 ?side2 A17.out).mono ?_); (case side1 => repeat (first | exact (Kd.N_reads' HO383.out).2.2 | (with_reducible refine Kd.C_alloc ?_ _) | (with_reducible refine Kd.C_drewN ?_ _) | (with_reducible refine Kd.C_drew ?_))); (case side2 => exact (Kd.N_reads' HO383.out).2.1); rintro e w33 ⟨rfl, hb⟩; refine ⟨_, rfl, ?_⟩; have n0_ := yJ (Kd.N_below (by (with_reducible repeat (first | apply Kd.N_alloc | apply Kd.N_drewN | apply Kd.N_drew)); exact HO383.out) hb); have n1_ := yJ (blk_below (g := gb384) (o := .cells #[.int .i64 t378, .string t379, .int .i64 t380, .slice Ao11 t381.length co11] 25 (0, 0)) (by (with_reducible repeat (first | refine yA ?_ _ | refine yB ?_ | refine yC ?_ _)); exact BK384.out) hb); have n2_ := yJ (below_step (by repeat (first | (with_reducible first | exact HB.out | apply yF | apply yG | apply yH | refine yI ?_ GE384.out) | exact HB.out)) hb); clear HO383; clear BK384; clear HB; have HO383 := n0_; have BK384 := n1_; have HB := n2_; clear n0_ n1_ n2_; (try clear hb); (try clear hb2); (try clear hk); (try clear hi)))
     go_meet
     case rel => exact ⟨_, (true), (by first | rfl | (simp; done) | (simp [*]; done)), H', ⟨by first | omega | exact Nat.le_refl _⟩, ⟨by (with_reducible repeat (first | apply Kd.N_alloc | apply Kd.N_drewN | apply Kd.N_drew)); exact HO383.out⟩, ⟨by (with_reducible repeat (first | refine yA ?_ _ | refine yB ?_ | refine yC ?_ _)); exact BK384.out⟩, ⟨by repeat (first | (with_reducible first | exact HB.out | apply yF | apply yG | apply yH | refine yI ?_ GE384.out) | exact HB.out)⟩⟩
    ·rw [if_neg c31] at H
     have c31b0 : ((t388 == 0) != true) = false := by simpa using c31
     (try (have c31b1 : decide ((t388 == 0) = true) = true := by simpa using c31))
     (try (have c31b2 : ((t388 == 0) == true) = true := by simpa using c31))
     clear c31
     by_cases c34 : t387 = true
     ·subst c34
      have H1 : (f5_TermSorts.j0 k false true true (t378 != 4) t378 t379 t380 t381) = some r := by rw [if_pos rfl] at H; exact H
      clear H;have H := H1;clear H1
      have H' := yJ H
      clear H
      have hcz35_0 : w16.cell? ⟨gb384, 0, none⟩ = some (.int .i64 t378) := (yE BK384.out 0).trans rfl
      have hcz35_1 : w16.cell? ⟨gb384, 1, none⟩ = some (.string t379) := (yE BK384.out 1).trans rfl
      have hcz35_2 : w16.cell? ⟨gb384, 2, none⟩ = some (.int .i64 t380) := (yE BK384.out 2).trans rfl
      have hcz35_3 : w16.cell? ⟨gb384, 3, none⟩ = some (.slice Ao11 t381.length co11) := (yE BK384.out 3).trans rfl
      have hfz35_0 := yD BK384.out 0
      have hfz35_1 := yD BK384.out 1
      have hfz35_2 := yD BK384.out 2
      have hfz35_3 := yD BK384.out 3
      go_wp2_with (first | ((with_reducible refine gate_callee (f := 19) rfl ?_); refine goesL_ (some 20) rfl rfl Tryd.func19 (by kernel_rfl) rfl #[.agg #[.int .i64 t378, .string t379, .int .i64 t380, .slice Ao11 t381.length co11]] rfl (by (try simp only [List.map_toArray, List.map_cons, List.map_nil]); first | done | rfl | (simp only [List.length_drop, List.length_take]; rfl)) ?_; (with_reducible refine (term_WellFormed.calls k t378 t379 t380 _ _ t381 t388 _ ?side1 ?side2 A17.out).mono ?_); (case side1 => repeat (first | exact (Kd.N_reads' HO383.out).2.2 | (with_reducible refine Kd.C_alloc ?_ _) | (with_reducible refine Kd.C_drewN ?_ _) | (with_reducible refine Kd.C_drew ?_))); (case side2 => exact (Kd.N_reads' HO383.out).2.1); rintro e w36 ⟨rfl, hb⟩; refine ⟨_, rfl, ?_⟩; have n0_ := yJ (Kd.N_below (by (with_reducible repeat (first | apply Kd.N_alloc | apply Kd.N_drewN | apply Kd.N_drew)); exact HO383.out) hb); have n1_ := yJ (blk_below (g := gb384) (o := .cells #[.int .i64 t378, .string t379, .int .i64 t380, .slice Ao11 t381.length co11] 25 (0, 0)) (by (with_reducible repeat (first | refine yA ?_ _ | refine yB ?_ | refine yC ?_ _)); exact BK384.out) hb); have n2_ := yJ (below_step (by repeat (first | (with_reducible first | exact HB.out | apply yF | apply yG | apply yH | refine yI ?_ GE384.out) | exact HB.out)) hb); clear HO383; clear BK384; clear HB; have HO383 := n0_; have BK384 := n1_; have HB := n2_; clear n0_ n1_ n2_; (try clear hb); (try clear hb2); (try clear hk); (try clear hi); have hcz37_0 : w36.cell? ⟨gb384, 0, none⟩ = some (.int .i64 t378) := (yE BK384.out 0).trans rfl; have hcz37_1 : w36.cell? ⟨gb384, 1, none⟩ = some (.string t379) := (yE BK384.out 1).trans rfl; have hcz37_2 : w36.cell? ⟨gb384, 2, none⟩ = some (.int .i64 t380) := (yE BK384.out 2).trans rfl; have hcz37_3 : w36.cell? ⟨gb384, 3, none⟩ = some (.slice Ao11 t381.length co11) := (yE BK384.out 3).trans rfl; have hfz37_0 := yD BK384.out 0; have hfz37_1 := yD BK384.out 1; have hfz37_2 := yD BK384.out 2; have hfz37_3 := yD BK384.out 3))
      go_meet
      case rel => exact ⟨_, ((t378 != 4)), (by first | rfl | (simp; done) | (simp [*]; done)), H', ⟨by first | omega | exact Nat.le_refl _⟩, ⟨by (with_reducible repeat (first | apply Kd.N_alloc | apply Kd.N_drewN | apply Kd.N_drew)); exact HO383.out⟩, ⟨by (with_reducible repeat (first | refine yA ?_ _ | refine yB ?_ | refine yC ?_ _)); exact BK384.out⟩, ⟨by repeat (first | (with_reducible first | exact HB.out | apply yF | apply yG | apply yH | refine yI ?_ GE384.out) | exact HB.out)⟩⟩
     ·replace c34 := Bool.eq_false_iff.mpr c34
      subst c34
      have H1 : (f5_TermSorts.j0 k false true false false t378 t379 t380 t381) = some r := by rw [if_neg (show ¬ (false = true) by decide)] at H; exact H
      clear H;have H := H1;clear H1
      have H' := yJ H
      clear H
      have hcz38_0 : w16.cell? ⟨gb384, 0, none⟩ = some (.int .i64 t378) := (yE BK384.out 0).trans rfl
      have hcz38_1 : w16.cell? ⟨gb384, 1, none⟩ = some (.string t379) := (yE BK384.out 1).trans rfl
      have hcz38_2 : w16.cell? ⟨gb384, 2, none⟩ = some (.int .i64 t380) := (yE BK384.out 2).trans rfl
      have hcz38_3 : w16.cell? ⟨gb384, 3, none⟩ = some (.slice Ao11 t381.length co11) := (yE BK384.out 3).trans rfl
      have hfz38_0 := yD BK384.out 0
      have hfz38_1 := yD BK384.out 1
      have hfz38_2 := yD BK384.out 2
      have hfz38_3 := yD BK384.out 3
      go_wp2_with (first | ((with_reducible refine gate_callee (f := 19) rfl ?_); refine goesL_ (some 20) rfl rfl Tryd.func19 (by kernel_rfl) rfl #[.agg #[.int .i64 t378, .string t379, .int .i64 t380, .slice Ao11 t381.length co11]] rfl (by (try simp only [List.map_toArray, List.map_cons, List.map_nil]); first | done | rfl | (simp only [List.length_drop, List.length_take]; rfl)) ?_; (with_reducible refine (term_WellFormed.calls k t378 t379 t380 _ _ t381 t388 _ ?side1 ?side2 A17.out).mono ?_); (case side1 => repeat (first | exact (Kd.N_reads' HO383.out).2.2 | (with_reducible refine Kd.C_alloc ?_ _) | (with_reducible refine Kd.C_drewN ?_ _) | (with_reducible refine Kd.C_drew ?_))); (case side2 => exact (Kd.N_reads' HO383.out).2.1); rintro e w39 ⟨rfl, hb⟩; refine ⟨_, rfl, ?_⟩; have n0_ := yJ (Kd.N_below (by (with_reducible repeat (first | apply Kd.N_alloc | apply Kd.N_drewN | apply Kd.N_drew)); exact HO383.out) hb); have n1_ := yJ (blk_below (g := gb384) (o := .cells #[.int .i64 t378, .string t379, .int .i64 t380, .slice Ao11 t381.length co11] 25 (0, 0)) (by (with_reducible repeat (first | refine yA ?_ _ | refine yB ?_ | refine yC ?_ _)); exact BK384.out) hb); have n2_ := yJ (below_step (by repeat (first | (with_reducible first | exact HB.out | apply yF | apply yG | apply yH | refine yI ?_ GE384.out) | exact HB.out)) hb); clear HO383; clear BK384; clear HB; have HO383 := n0_; have BK384 := n1_; have HB := n2_; clear n0_ n1_ n2_; (try clear hb); (try clear hb2); (try clear hk); (try clear hi)))
      go_meet
      case rel => exact ⟨_, (false), (by first | rfl | (simp; done) | (simp [*]; done)), H', ⟨by first | omega | exact Nat.le_refl _⟩, ⟨by (with_reducible repeat (first | apply Kd.N_alloc | apply Kd.N_drewN | apply Kd.N_drew)); exact HO383.out⟩, ⟨by (with_reducible repeat (first | refine yA ?_ _ | refine yB ?_ | refine yC ?_ _)); exact BK384.out⟩, ⟨by repeat (first | (with_reducible first | exact HB.out | apply yF | apply yG | apply yH | refine yI ?_ GE384.out) | exact HB.out)⟩⟩
   ·replace c30 := Bool.eq_false_iff.mpr c30
    subst c30
    have H1 : (if ((t388 == 0) != t387) = true then (f5_TermSorts.j0 k false false t387 true t378 t379 t380 t381) else (f5_TermSorts.j0 k false false t387 false t378 t379 t380 t381)) = some r := by rw [if_neg (show ¬ (false = true) by decide)] at H; exact H
    clear H;have H := H1;clear H1
    by_cases c40 : ((t388 == 0) != t387) = true
    ·rw [if_pos c40] at H
     have c40b0 : ((t388 == 0) != t387) = true := c40
     (try (have c40b1 : decide ((t388 == 0) = t387) = false := by simpa using c40))
     (try (have c40b2 : ((t388 == 0) == t387) = false := by simpa using c40))
     (try (have c40b3 : ¬ ((t388 == 0) = t387) := by simpa using c40))
     clear c40
     have H' := yJ H
     clear H
     have hcz41_0 : w16.cell? ⟨gb384, 0, none⟩ = some (.int .i64 t378) := (yE BK384.out 0).trans rfl
     have hcz41_1 : w16.cell? ⟨gb384, 1, none⟩ = some (.string t379) := (yE BK384.out 1).trans rfl
     have hcz41_2 : w16.cell? ⟨gb384, 2, none⟩ = some (.int .i64 t380) := (yE BK384.out 2).trans rfl
     have hcz41_3 : w16.cell? ⟨gb384, 3, none⟩ = some (.slice Ao11 t381.length co11) := (yE BK384.out 3).trans rfl
     have hfz41_0 := yD BK384.out 0
     have hfz41_1 := yD BK384.out 1
     have hfz41_2 := yD BK384.out 2
     have hfz41_3 := yD BK384.out 3
     go_wp2_with (first | ((with_reducible refine gate_callee (f := 19) rfl ?_); refine goesL_ (some 20) rfl rfl Tryd.func19 (by kernel_rfl) rfl #[.agg #[.int .i64 t378, .string t379, .int .i64 t380, .slice Ao11 t381.length co11]] rfl (by (try simp only [List.map_toArray, List.map_cons, List.map_nil]); first | done | rfl | (simp only [List.length_drop, List.length_take]; rfl)) ?_; (with_reducible refine (term_WellFormed.calls k t378 t379 t380 _ _ t381 t388 _ ?side1 ?side2 A17.out).mono ?_); (case side1 => repeat (first | exact (Kd.N_reads' HO383.out).2.2 | (with_reducible refine Kd.C_alloc ?_ _) | (with_reducible refine Kd.C_drewN ?_ _) | (with_reducible refine Kd.C_drew ?_))); (case side2 => exact (Kd.N_reads' HO383.out).2.1); rintro e w42 ⟨rfl, hb⟩; refine ⟨_, rfl, ?_⟩; have n0_ := yJ (Kd.N_below (by (with_reducible repeat (first | apply Kd.N_alloc | apply Kd.N_drewN | apply Kd.N_drew)); exact HO383.out) hb); have n1_ := yJ (blk_below (g := gb384) (o := .cells #[.int .i64 t378, .string t379, .int .i64 t380, .slice Ao11 t381.length co11] 25 (0, 0)) (by (with_reducible repeat (first | refine yA ?_ _ | refine yB ?_ | refine yC ?_ _)); exact BK384.out) hb); have n2_ := yJ (below_step (by repeat (first | (with_reducible first | exact HB.out | apply yF | apply yG | apply yH | refine yI ?_ GE384.out) | exact HB.out)) hb); clear HO383; clear BK384; clear HB; have HO383 := n0_; have BK384 := n1_; have HB := n2_; clear n0_ n1_ n2_; (try clear hb); (try clear hb2); (try clear hk); (try clear hi)))
     go_meet
     case rel => exact ⟨_, (true), (by first | rfl | (simp; done) | (simp [*]; done)), H', ⟨by first | omega | exact Nat.le_refl _⟩, ⟨by (with_reducible repeat (first | apply Kd.N_alloc | apply Kd.N_drewN | apply Kd.N_drew)); exact HO383.out⟩, ⟨by (with_reducible repeat (first | refine yA ?_ _ | refine yB ?_ | refine yC ?_ _)); exact BK384.out⟩, ⟨by repeat (first | (with_reducible first | exact HB.out | apply yF | apply yG | apply yH | refine yI ?_ GE384.out) | exact HB.out)⟩⟩
    ·rw [if_neg c40] at H
     have c40b0 : ((t388 == 0) != t387) = false := by simpa using c40
     (try (have c40b1 : decide ((t388 == 0) = t387) = true := by simpa using c40))
     (try (have c40b2 : ((t388 == 0) == t387) = true := by simpa using c40))
     clear c40
     have H' := yJ H
     clear H
     have hcz43_0 : w16.cell? ⟨gb384, 0, none⟩ = some (.int .i64 t378) := (yE BK384.out 0).trans rfl
     have hcz43_1 : w16.cell? ⟨gb384, 1, none⟩ = some (.string t379) := (yE BK384.out 1).trans rfl
     have hcz43_2 : w16.cell? ⟨gb384, 2, none⟩ = some (.int .i64 t380) := (yE BK384.out 2).trans rfl
     have hcz43_3 : w16.cell? ⟨gb384, 3, none⟩ = some (.slice Ao11 t381.length co11) := (yE BK384.out 3).trans rfl
     have hfz43_0 := yD BK384.out 0
     have hfz43_1 := yD BK384.out 1
     have hfz43_2 := yD BK384.out 2
     have hfz43_3 := yD BK384.out 3
     go_wp2_with (first | ((with_reducible refine gate_callee (f := 19) rfl ?_); refine goesL_ (some 20) rfl rfl Tryd.func19 (by kernel_rfl) rfl #[.agg #[.int .i64 t378, .string t379, .int .i64 t380, .slice Ao11 t381.length co11]] rfl (by (try simp only [List.map_toArray, List.map_cons, List.map_nil]); first | done | rfl | (simp only [List.length_drop, List.length_take]; rfl)) ?_; (with_reducible refine (term_WellFormed.calls k t378 t379 t380 _ _ t381 t388 _ ?side1 ?side2 A17.out).mono ?_); (case side1 => repeat (first | exact (Kd.N_reads' HO383.out).2.2 | (with_reducible refine Kd.C_alloc ?_ _) | (with_reducible refine Kd.C_drewN ?_ _) | (with_reducible refine Kd.C_drew ?_))); (case side2 => exact (Kd.N_reads' HO383.out).2.1); rintro e w44 ⟨rfl, hb⟩; refine ⟨_, rfl, ?_⟩; have n0_ := yJ (Kd.N_below (by (with_reducible repeat (first | apply Kd.N_alloc | apply Kd.N_drewN | apply Kd.N_drew)); exact HO383.out) hb); have n1_ := yJ (blk_below (g := gb384) (o := .cells #[.int .i64 t378, .string t379, .int .i64 t380, .slice Ao11 t381.length co11] 25 (0, 0)) (by (with_reducible repeat (first | refine yA ?_ _ | refine yB ?_ | refine yC ?_ _)); exact BK384.out) hb); have n2_ := yJ (below_step (by repeat (first | (with_reducible first | exact HB.out | apply yF | apply yG | apply yH | refine yI ?_ GE384.out) | exact HB.out)) hb); clear HO383; clear BK384; clear HB; have HO383 := n0_; have BK384 := n1_; have HB := n2_; clear n0_ n1_ n2_; (try clear hb); (try clear hb2); (try clear hk); (try clear hi)))
     go_meet
     case rel => exact ⟨_, (false), (by first | rfl | (simp; done) | (simp [*]; done)), H', ⟨by first | omega | exact Nat.le_refl _⟩, ⟨by (with_reducible repeat (first | apply Kd.N_alloc | apply Kd.N_drewN | apply Kd.N_drew)); exact HO383.out⟩, ⟨by (with_reducible repeat (first | refine yA ?_ _ | refine yB ?_ | refine yC ?_ _)); exact BK384.out⟩, ⟨by repeat (first | (with_reducible first | exact HB.out | apply yF | apply yG | apply yH | refine yI ?_ GE384.out) | exact HB.out)⟩⟩
 case rest =>
  clear HC7
  try clear c1
  try clear c2
  try clear p2
  try clear c3
  try clear c4
  try clear c6
  try clear c17
  try clear c18
  try clear c19
  try clear c19b0
  try clear c19b1
  try clear c19b2
  try clear c21
  try clear c22
  try clear c23
  try clear c25
  try clear c30
  try clear c31
  try clear c31b0
  try clear c31b1
  try clear c31b2
  try clear c34
  try clear c40
  try clear c40b0
  try clear c40b1
  try clear c40b2
  try clear hcz10_0
  try clear hcz10_1
  try clear hcz10_2
  try clear hcz10_3
  try clear hcz20_0
  try clear hcz20_1
  try clear hcz20_2
  try clear hcz20_3
  try clear hcz23_0
  try clear hcz23_1
  try clear hcz23_2
  try clear hcz23_3
  try clear hcz26_0
  try clear hcz26_1
  try clear hcz26_2
  try clear hcz26_3
  try clear hcz28_0
  try clear hcz28_1
  try clear hcz28_2
  try clear hcz28_3
  try clear hcz32_0
  try clear hcz32_1
  try clear hcz32_2
  try clear hcz32_3
  try clear hcz35_0
  try clear hcz35_1
  try clear hcz35_2
  try clear hcz35_3
  try clear hcz37_0
  try clear hcz37_1
  try clear hcz37_2
  try clear hcz37_3
  try clear hcz38_0
  try clear hcz38_1
  try clear hcz38_2
  try clear hcz38_3
  try clear hcz41_0
  try clear hcz41_1
  try clear hcz41_2
  try clear hcz41_3
  try clear hcz43_0
  try clear hcz43_1
  try clear hcz43_2
  try clear hcz43_3
  try clear hfz10_0
  try clear hfz10_1
  try clear hfz10_2
  try clear hfz10_3
  try clear hfz20_0
  try clear hfz20_1
  try clear hfz20_2
  try clear hfz20_3
  try clear hfz23_0
  try clear hfz23_1
  try clear hfz23_2
  try clear hfz23_3
  try clear hfz26_0
  try clear hfz26_1
  try clear hfz26_2
  try clear hfz26_3
  try clear hfz28_0
  try clear hfz28_1
  try clear hfz28_2
  try clear hfz28_3
  try clear hfz32_0
  try clear hfz32_1
  try clear hfz32_2
  try clear hfz32_3
  try clear hfz35_0
  try clear hfz35_1
  try clear hfz35_2
  try clear hfz35_3
  try clear hfz37_0
  try clear hfz37_1
  try clear hfz37_2
  try clear hfz37_3
  try clear hfz38_0
  try clear hfz38_1
  try clear hfz38_2
  try clear hfz38_3
  try clear hfz41_0
  try clear hfz41_1
  try clear hfz41_2
  try clear hfz41_3
  try clear hfz43_0
  try clear hfz43_1
  try clear hfz43_2
  try clear hfz43_3
  obtain ⟨kq, x49_6, rfl, HA, HJ6, HO_385003, BK384, HB⟩ := hcut
  cases kq with
  | zero => exact absurd HA.out (by simp [f5_TermSorts.j0])
  | succ kj6 =>
   have H := HA.out;clear HA
   simp only [f5_TermSorts.j0] at H
   by_cases c45 : x49_6 = true
   ·subst c45
    have H1 : (some false) = some r := by rw [if_pos rfl] at H; exact H
    clear H;have H := H1;clear H1
    obtain rfl := Option.some.inj H
    go_wp2
    go_ret
    exact ⟨by first | rfl | (simp [errW_none, errW_some] <;> rfl) | (simp [*, errW_none, errW_some] <;> rfl), by repeat (first | (with_reducible first | exact HB.out | apply yF | apply yG | apply yH | refine yI ?_ GE384.out) | exact HB.out)⟩
   ·replace c45 := Bool.eq_false_iff.mpr c45
    subst c45
    have H1 : (if t385 = true then (f5_TermSorts.j1 kj6 t385 t386 t387 false t378 t379 t380 t381) else (if t386 = true then (f5_TermSorts.j1 kj6 t385 t386 t387 false t378 t379 t380 t381) else (f5_TermSorts.j1 kj6 t385 t386 t387 (!t387) t378 t379 t380 t381))) = some r := by rw [if_neg (show ¬ (false = true) by decide)] at H; exact H
    clear H;have H := H1;clear H1;have HC46 := yJ H;clear H
    go_upto_region 5 with (fail)
    go_cut [59] (fun v59 wc => ∃ (kq : Nat) (x59_45 : Bool), v59 = .bool x59_45 ∧ Aside0 (f5_TermSorts.j1 kq t385 t386 t387 x59_45 t378 t379 t380 t381 = some r) ∧ Aside0 (kq ≤ kj6) ∧ Aside0 (Kd.N k25 25 wc w.heap.size (fun k_ => k_ ≠ gb384) (.slice Ao11 t381.length co11) t381) ∧ Aside0 (wc.heap[gb384]? = some (.cells #[.int .i64 t378, .string t379, .int .i64 t380, (.slice Ao11 t381.length co11)] 25 (0, 0))) ∧ Aside0 (Below w.heap.size w wc))
    case first =>
     have H := HC46.out;clear HC46
     by_cases c47 : t385 = true
     ·subst c47
      have H1 : (f5_TermSorts.j1 kj6 true t386 t387 false t378 t379 t380 t381) = some r := by rw [if_pos rfl] at H; exact H
      clear H;have H := H1;clear H1
      have H' := yJ H
      clear H
      go_wp2
      go_meet
      case rel => exact ⟨_, (false), (by first | rfl | (simp; done) | (simp [*]; done)), H', ⟨by have := HJ6.out; first | omega | exact Nat.le_refl _⟩, ⟨by (with_reducible repeat (first | apply Kd.N_alloc | apply Kd.N_drewN | apply Kd.N_drew)); exact HO_385003.out⟩, ⟨by (with_reducible repeat (first | refine yA ?_ _ | refine yB ?_ | refine yC ?_ _)); exact BK384.out⟩, ⟨by repeat (first | (with_reducible first | exact HB.out | apply yF | apply yG | apply yH | refine yI ?_ GE384.out) | exact HB.out)⟩⟩
     ·replace c47 := Bool.eq_false_iff.mpr c47
      subst c47
      have H1 : (if t386 = true then (f5_TermSorts.j1 kj6 false t386 t387 false t378 t379 t380 t381) else (f5_TermSorts.j1 kj6 false t386 t387 (!t387) t378 t379 t380 t381)) = some r := by rw [if_neg (show ¬ (false = true) by decide)] at H; exact H
      clear H;have H := H1;clear H1
      by_cases c48 : t386 = true
      ·subst c48
       have H1 : (f5_TermSorts.j1 kj6 false true t387 false t378 t379 t380 t381) = some r := by rw [if_pos rfl] at H; exact H
       clear H;have H := H1;clear H1
       have H' := yJ H
       clear H
       go_wp2
       go_meet
       case rel => exact ⟨_, (false), (by first | rfl | (simp; done) | (simp [*]; done)), H', ⟨by have := HJ6.out; first | omega | exact Nat.le_refl _⟩, ⟨by (with_reducible repeat (first | apply Kd.N_alloc | apply Kd.N_drewN | apply Kd.N_drew)); exact HO_385003.out⟩, ⟨by (with_reducible repeat (first | refine yA ?_ _ | refine yB ?_ | refine yC ?_ _)); exact BK384.out⟩, ⟨by repeat (first | (with_reducible first | exact HB.out | apply yF | apply yG | apply yH | refine yI ?_ GE384.out) | exact HB.out)⟩⟩
      ·replace c48 := Bool.eq_false_iff.mpr c48
       subst c48
       have H1 : (f5_TermSorts.j1 kj6 false false t387 (!t387) t378 t379 t380 t381) = some r := by rw [if_neg (show ¬ (false = true) by decide)] at H; exact H
       clear H;have H := H1;clear H1
       have H' := yJ H
       clear H
       go_wp2
       go_meet
       case rel => exact ⟨_, (!t387), (by first | rfl | (simp; done) | (simp [*]; done)), H', ⟨by have := HJ6.out; first | omega | exact Nat.le_refl _⟩, ⟨by (with_reducible repeat (first | apply Kd.N_alloc | apply Kd.N_drewN | apply Kd.N_drew)); exact HO_385003.out⟩, ⟨by (with_reducible repeat (first | refine yA ?_ _ | refine yB ?_ | refine yC ?_ _)); exact BK384.out⟩, ⟨by repeat (first | (with_reducible first | exact HB.out | apply yF | apply yG | apply yH | refine yI ?_ GE384.out) | exact HB.out)⟩⟩
    case rest =>
     clear HC46
     try clear c1
     try clear c2
     try clear p2
     try clear c3
     try clear c4
     try clear c6
     try clear c17
     try clear c18
     try clear c19
     try clear c19b0
     try clear c19b1
     try clear c19b2
     try clear c21
     try clear c22
     try clear c23
     try clear c25
     try clear c30
     try clear c31
     try clear c31b0
     try clear c31b1
     try clear c31b2
     try clear c34
     try clear c40
     try clear c40b0
     try clear c40b1
     try clear c40b2
     try clear c45
     try clear c47
     try clear c48
     try clear hcz10_0
     try clear hcz10_1
     try clear hcz10_2
     try clear hcz10_3
     try clear hcz20_0
     try clear hcz20_1
     try clear hcz20_2
     try clear hcz20_3
     try clear hcz23_0
     try clear hcz23_1
     try clear hcz23_2
     try clear hcz23_3
     try clear hcz26_0
     try clear hcz26_1
     try clear hcz26_2
     try clear hcz26_3
     try clear hcz28_0
     try clear hcz28_1
     try clear hcz28_2
     try clear hcz28_3
     try clear hcz32_0
     try clear hcz32_1
     try clear hcz32_2
     try clear hcz32_3
     try clear hcz35_0
     try clear hcz35_1
     try clear hcz35_2
     try clear hcz35_3
     try clear hcz37_0
     try clear hcz37_1
     try clear hcz37_2
     try clear hcz37_3
     try clear hcz38_0
     try clear hcz38_1
     try clear hcz38_2
     try clear hcz38_3
     try clear hcz41_0
     try clear hcz41_1
     try clear hcz41_2
     try clear hcz41_3
     try clear hcz43_0
     try clear hcz43_1
     try clear hcz43_2
     try clear hcz43_3
     try clear hfz10_0
     try clear hfz10_1
     try clear hfz10_2
     try clear hfz10_3
     try clear hfz20_0
     try clear hfz20_1
     try clear hfz20_2
     try clear hfz20_3
     try clear hfz23_0
     try clear hfz23_1
     try clear hfz23_2
     try clear hfz23_3
     try clear hfz26_0
     try clear hfz26_1
     try clear hfz26_2
     try clear hfz26_3
     try clear hfz28_0
     try clear hfz28_1
     try clear hfz28_2
     try clear hfz28_3
     try clear hfz32_0
     try clear hfz32_1
     try clear hfz32_2
     try clear hfz32_3
     try clear hfz35_0
     try clear hfz35_1
     try clear hfz35_2
     try clear hfz35_3
     try clear hfz37_0
     try clear hfz37_1
     try clear hfz37_2
     try clear hfz37_3
     try clear hfz38_0
     try clear hfz38_1
     try clear hfz38_2
     try clear hfz38_3
     try clear hfz41_0
     try clear hfz41_1
     try clear hfz41_2
     try clear hfz41_3
     try clear hfz43_0
     try clear hfz43_1
     try clear hfz43_2
     try clear hfz43_3
     try clear p2
     obtain ⟨kq, x59_45, rfl, HA, HJ45, HO_385003, BK384, HB⟩ := hcut
     cases kq with
     | zero => exact absurd HA.out (by simp [f5_TermSorts.j1])
     | succ kj45 =>
      have H := HA.out;clear HA
      simp only [f5_TermSorts.j1] at H
      by_cases c49 : x59_45 = true
      ·subst c49
       have H1 : ((f5_awake.f).bind fun t389 => (some t389)) = some r := by rw [if_pos rfl] at H; exact H
       clear H;have H := H1;clear H1;replace H := yK H;obtain ⟨t389, A500, H⟩ := H
       replace H : (some t389) = some r := H
       have A50 := yJ A500;clear A500
       obtain rfl := Option.some.inj H
       go_wp2_with (first | ((with_reducible refine gate_callee (f := 41) rfl ?_); refine goesL_ (some 60) rfl rfl Tryd.func41 (by kernel_rfl) rfl #[] rfl (by (try simp only [List.map_toArray, List.map_cons, List.map_nil]); first | done | rfl | (simp only [List.length_drop, List.length_take]; rfl)) ?_; (with_reducible refine (f5_awake.calls  t389 _ A50.out).mono ?_); rintro e w51 ⟨rfl, hb⟩; refine ⟨_, rfl, ?_⟩; have n0_ := yJ (Kd.N_below (by (with_reducible repeat (first | apply Kd.N_alloc | apply Kd.N_drewN | apply Kd.N_drew)); exact HO_385003.out) hb); have n1_ := yJ (blk_below (g := gb384) (o := .cells #[.int .i64 t378, .string t379, .int .i64 t380, .slice Ao11 t381.length co11] 25 (0, 0)) (by (with_reducible repeat (first | refine yA ?_ _ | refine yB ?_ | refine yC ?_ _)); exact BK384.out) hb); have n2_ := yJ (below_step (by repeat (first | (with_reducible first | exact HB.out | apply yF | apply yG | apply yH | refine yI ?_ GE384.out) | exact HB.out)) hb); clear HO_385003; clear BK384; clear HB; have HO_385003 := n0_; have BK384 := n1_; have HB := n2_; clear n0_ n1_ n2_; (try clear hb); (try clear hb2); (try clear hk); (try clear hi)))
       go_ret
       exact ⟨by first | rfl | (simp [errW_none, errW_some] <;> rfl) | (simp [*, errW_none, errW_some] <;> rfl), by repeat (first | (with_reducible first | exact HB.out | apply yF | apply yG | apply yH | refine yI ?_ GE384.out) | exact HB.out)⟩
      ·replace c49 := Bool.eq_false_iff.mpr c49
       subst c49
       have H1 : (if t378 = 2 then (if 0 < (t381.length : Int) then ((term_IsType.f kj45 ((rd_T25 t381 0).f0) ((rd_T25 t381 0).f1) ((rd_T25 t381 0).f2) ((rd_T25 t381 0).f3)).bind fun t391 => (if t391 = true then (if 1 < (t381.length : Int) then ((term_IsKind.f kj45 ((rd_T25 t381 1).f0) ((rd_T25 t381 1).f1) ((rd_T25 t381 1).f2) ((rd_T25 t381 1).f3)).bind fun t393 => (if (t393 == t385) = true then ((term_IsType.f kj45 ((rd_T25 t381 1).f0) ((rd_T25 t381 1).f1) ((rd_T25 t381 1).f2) ((rd_T25 t381 1).f3)).bind fun t395 => (if (t395 == t386) = true then ((f5_awake.f).bind fun t396 => (some t396)) else (some false))) else (some false))) else (none)) else (some false))) else (none)) else (if t378 = 3 then (if 0 < (t381.length : Int) then ((term_IsObject.f kj45 ((rd_T25 t381 0).f0) ((rd_T25 t381 0).f1) ((rd_T25 t381 0).f2) ((rd_T25 t381 0).f3)).bind fun t398 => (if t398 = true then (if t387 = true then ((f5_awake.f).bind fun t399 => (some t399)) else (some false)) else (some false))) else (none)) else (f5_TermSorts.l0 kj45 0 t378 t379 t380 t381))) = some r := by rw [if_neg (show ¬ (false = true) by decide)] at H; exact H
       clear H;have H := H1;clear H1
       by_cases c52 : t378 = 2
       ·rw [if_pos c52] at H
        have c52b0 : (t378 == 2) = true := beq_iff_eq.mpr c52
        have c52b1 : (t378 != 2) = false := bne_eq_false_iff_eq.mpr c52
        clear c52
        by_cases c53 : 0 < (t381.length : Int)
        ·rw [if_pos c53] at H
         have c53b0 : decide (0 < (t381.length : Int)) = true := decide_eq_true c53
         have c53b1 : decide (0 < t381.length) = true := decide_eq_true (by omega)
         clear c53;replace H := yK H;obtain ⟨t391, A540, H⟩ := H
         replace H : (if t391 = true then (if 1 < (t381.length : Int) then ((term_IsKind.f kj45 ((rd_T25 t381 1).f0) ((rd_T25 t381 1).f1) ((rd_T25 t381 1).f2) ((rd_T25 t381 1).f3)).bind fun t393 => (if (t393 == t385) = true then ((term_IsType.f kj45 ((rd_T25 t381 1).f0) ((rd_T25 t381 1).f1) ((rd_T25 t381 1).f2) ((rd_T25 t381 1).f3)).bind fun t395 => (if (t395 == t386) = true then ((f5_awake.f).bind fun t396 => (some t396)) else (some false))) else (some false))) else (none)) else (some false)) = some r := H
         have A54 := yJ A540;clear A540
         by_cases c55 : t391 = true
         ·subst c55
          have H1 : (if 1 < (t381.length : Int) then ((term_IsKind.f kj45 ((rd_T25 t381 1).f0) ((rd_T25 t381 1).f1) ((rd_T25 t381 1).f2) ((rd_T25 t381 1).f3)).bind fun t393 => (if (t393 == t385) = true then ((term_IsType.f kj45 ((rd_T25 t381 1).f0) ((rd_T25 t381 1).f1) ((rd_T25 t381 1).f2) ((rd_T25 t381 1).f3)).bind fun t395 => (if (t395 == t386) = true then ((f5_awake.f).bind fun t396 => (some t396)) else (some false))) else (some false))) else (none)) = some r := by rw [if_pos rfl] at H; exact H
          clear H;have H := H1;clear H1
          by_cases c56 : 1 < (t381.length : Int)
          ·rw [if_pos c56] at H
           have c56b0 : decide (1 < (t381.length : Int)) = true := decide_eq_true c56
           have c56b1 : decide (1 < t381.length) = true := decide_eq_true (by omega)
           clear c56;replace H := yK H;obtain ⟨t393, A570, H⟩ := H
           replace H : (if (t393 == t385) = true then ((term_IsType.f kj45 ((rd_T25 t381 1).f0) ((rd_T25 t381 1).f1) ((rd_T25 t381 1).f2) ((rd_T25 t381 1).f3)).bind fun t395 => (if (t395 == t386) = true then ((f5_awake.f).bind fun t396 => (some t396)) else (some false))) else (some false)) = some r := H
           have A57 := yJ A570;clear A570
           by_cases c58 : (t393 == t385) = true
           ·rw [if_pos c58] at H
            have c58b0 : (t393 == t385) = true := c58
            (try (have c58b1 : decide (t393 = t385) = true := by simpa using c58))
            (try (have c58b2 : (t393 == t385) = true := by simpa using c58))
            clear c58;replace H := yK H;obtain ⟨t395, A590, H⟩ := H
            replace H : (if (t395 == t386) = true then ((f5_awake.f).bind fun t396 => (some t396)) else (some false)) = some r := H
            have A59 := yJ A590;clear A590
            by_cases c60 : (t395 == t386) = true
            ·rw [if_pos c60] at H
             have c60b0 : (t395 == t386) = true := c60
             (try (have c60b1 : decide (t395 = t386) = true := by simpa using c60))
             (try (have c60b2 : (t395 == t386) = true := by simpa using c60))
             clear c60;replace H := yK H;obtain ⟨t396, A610, H⟩ := H
             replace H : (some t396) = some r := H
             have A61 := yJ A610;clear A610
             obtain rfl := Option.some.inj H
             have hcz62_0 : wc.cell? ⟨gb384, 0, none⟩ = some (.int .i64 t378) := (yE BK384.out 0).trans rfl
             have hcz62_1 : wc.cell? ⟨gb384, 1, none⟩ = some (.string t379) := (yE BK384.out 1).trans rfl
             have hcz62_2 : wc.cell? ⟨gb384, 2, none⟩ = some (.int .i64 t380) := (yE BK384.out 2).trans rfl
             have hcz62_3 : wc.cell? ⟨gb384, 3, none⟩ = some (.slice Ao11 t381.length co11) := (yE BK384.out 3).trans rfl
             have hfz62_0 := yD BK384.out 0
             have hfz62_1 := yD BK384.out 1
             have hfz62_2 := yD BK384.out 2
             have hfz62_3 := yD BK384.out 3
             have p390 : 0 ≤ (0 : Int) := (by omega)
             have q390 : 0 < (t381.length : Int) := of_decide_eq_true (by first | (with_reducible assumption) | assumption)
             obtain ⟨ad390, A390_3, c390_3, e390, hx390_0, hx390_1, hx390_2, hx390_3, hl390_3, hi390_3⟩ := at_T25 (Kd.N_reads' HO_385003.out).2.2 0 p390 q390
             cases e390
             obtain ⟨ce390, hce390, hMe390, hcc390⟩ := Kd.N_get HO_385003.out z25 0 p390 (by first | exact q390 | exact of_decide_eq_true (by first | (with_reducible assumption) | assumption) | (have e_ := (Kd.N_reads' HO_385003.out).1; omega))
             obtain ⟨ua390_3, uc390_3, rfl, ul390_3, ge390_3⟩ := k25_openF hMe390
             have hv390_3 := hcc390 3 _ rfl
             rw [add_field _ _ 3 (by omega)] at hv390_3
             replace hv390_3 := Option.some.inj (hv390_3.symm.trans hx390_3)
             injection hv390_3 with hva_ hvn_ hvc_
             rw [hva_] at ge390_3
             rw [hvc_] at ul390_3
             have HL390_3 := yJ (show Kd.V k25 25 _ w.heap.size _ _ ((rd_T25 t381 0).f3) from Kd.V_mk ul390_3 ge390_3)
             clear hva_ hvn_ hvc_ ge390_3 ul390_3 hcc390 hce390
             have qi390 : (0 < t381.length) = True := eq_true (by omega)
             (try rw [show ((0 : Int)).toNat = 0 from rfl] at hx390_0)
             (try rw [show 0 * 4 = 0 from rfl] at hx390_0)
             (try rw [Addr.add_zero'] at hx390_0)
             (try rw [show ((0 : Int)).toNat = 0 from rfl] at hx390_1)
             (try rw [show 0 * 4 = 0 from rfl] at hx390_1)
             (try rw [Addr.add_zero'] at hx390_1)
             (try rw [show ((0 : Int)).toNat = 0 from rfl] at hx390_2)
             (try rw [show 0 * 4 = 0 from rfl] at hx390_2)
             (try rw [Addr.add_zero'] at hx390_2)
             (try rw [show ((0 : Int)).toNat = 0 from rfl] at hx390_3)
             (try rw [show 0 * 4 = 0 from rfl] at hx390_3)
             (try rw [Addr.add_zero'] at hx390_3)
             have HR390_3 := yJ hi390_3;have HC390_3 := yJ hl390_3;clear hi390_3 hl390_3;replace p390 := eq_true p390;replace q390 := eq_true q390
             go_wp2_with (first | ((with_reducible refine gate_callee (f := 23) rfl ?_); refine goesL_ (some 69) rfl rfl Tryd.func23 (by kernel_rfl) rfl #[.agg #[.int .i64 ((rd_T25 t381 0).f0), .string ((rd_T25 t381 0).f1), .int .i64 ((rd_T25 t381 0).f2), .slice A390_3 ((rd_T25 t381 0).f3).length c390_3]] rfl (by (try simp only [List.map_toArray, List.map_cons, List.map_nil]); first | done | rfl | (simp only [List.length_drop, List.length_take]; rfl)) ?_; (with_reducible refine (term_IsType.calls kj45 ((rd_T25 t381 0).f0) ((rd_T25 t381 0).f1) ((rd_T25 t381 0).f2) _ _ ((rd_T25 t381 0).f3) true _ ?side1 ?side2 A54.out).mono ?_); (case side1 => repeat (first | exact (by repeat (first | (with_reducible exact HR390_3.out) | (with_reducible refine Kd.C_alloc ?_ _) | (with_reducible refine Kd.C_drewN ?_ _) | (with_reducible refine Kd.C_drew ?_) | exact HR390_3.out)) | (with_reducible refine Kd.C_alloc ?_ _) | (with_reducible refine Kd.C_drewN ?_ _) | (with_reducible refine Kd.C_drew ?_))); (case side2 => exact HC390_3.out); rintro e w63 ⟨rfl, hb⟩; refine ⟨_, rfl, ?_⟩; have n0_ := yJ (Kd.N_below (by (with_reducible repeat (first | apply Kd.N_alloc | apply Kd.N_drewN | apply Kd.N_drew)); exact HO_385003.out) hb); have n1_ := yJ (Kd.V_below (by (with_reducible repeat (first | apply Kd.V_alloc | apply Kd.V_drewN | apply Kd.V_drew)); exact HL390_3.out) hb); have n2_ := yJ (blk_below (g := gb384) (o := .cells #[.int .i64 t378, .string t379, .int .i64 t380, .slice (some ad390) t381.length co11] 25 (0, 0)) (by (with_reducible repeat (first | refine yA ?_ _ | refine yB ?_ | refine yC ?_ _)); exact BK384.out) hb); have n3_ := yJ (Kd.C_below (by repeat (first | (with_reducible exact HR390_3.out) | (with_reducible refine Kd.C_alloc ?_ _) | (with_reducible refine Kd.C_drewN ?_ _) | (with_reducible refine Kd.C_drew ?_) | exact HR390_3.out)) hb); have n4_ := yJ (below_step (by repeat (first | (with_reducible first | exact HB.out | apply yF | apply yG | apply yH | refine yI ?_ GE384.out) | exact HB.out)) hb); clear HO_385003; clear HL390_3; clear BK384; clear HR390_3; clear HB; have HO_385003 := n0_; have HL390_3 := n1_; have BK384 := n2_; have HR390_3 := n3_; have HB := n4_; clear n0_ n1_ n2_ n3_ n4_; (try clear hb); (try clear hb2); (try clear hk); (try clear hi); have hcz64_0 : w63.cell? ⟨gb384, 0, none⟩ = some (.int .i64 t378) := (yE BK384.out 0).trans rfl; have hcz64_1 : w63.cell? ⟨gb384, 1, none⟩ = some (.string t379) := (yE BK384.out 1).trans rfl; have hcz64_2 : w63.cell? ⟨gb384, 2, none⟩ = some (.int .i64 t380) := (yE BK384.out 2).trans rfl; have hcz64_3 : w63.cell? ⟨gb384, 3, none⟩ = some (.slice (some ad390) t381.length co11) := (yE BK384.out 3).trans rfl; have hfz64_0 := yD BK384.out 0; have hfz64_1 := yD BK384.out 1; have hfz64_2 := yD BK384.out 2; have hfz64_3 := yD BK384.out 3; have p392 : 0 ≤ (1 : Int) := (by omega); have q392 : 1 < (t381.length : Int) := of_decide_eq_true (by first | (with_reducible assumption) | assumption); obtain ⟨ad392, A392_3, c392_3, e392, hx392_0, hx392_1, hx392_2, hx392_3, hl392_3, hi392_3⟩ := at_T25 (Kd.N_reads' HO_385003.out).2.2 1 p392 q392; obtain rfl : ad390 = ad392 := (by injection e392); obtain ⟨ce392, hce392, hMe392, hcc392⟩ := Kd.N_get HO_385003.out z25 1 p392 (by first | exact q392 | exact of_decide_eq_true (by first | (with_reducible assumption) | assumption) | (have e_ := (Kd.N_reads' HO_385003.out).1; omega)); obtain ⟨ua392_3, uc392_3, rfl, ul392_3, ge392_3⟩ := k25_openF hMe392; have hv392_3 := hcc392 3 _ rfl; rw [add_field _ _ 3 (by omega)] at hv392_3; replace hv392_3 := Option.some.inj (hv392_3.symm.trans hx392_3); injection hv392_3 with hva_ hvn_ hvc_; rw [hva_] at ge392_3; rw [hvc_] at ul392_3; have HL392_3 := yJ (show Kd.V k25 25 _ w.heap.size _ _ ((rd_T25 t381 1).f3) from Kd.V_mk ul392_3 ge392_3); clear hva_ hvn_ hvc_ ge392_3 ul392_3; clear hcc392 hce392; (try simp only [show (1 : Int).toNat = 1 from rfl, Nat.reduceMul, Nat.reduceEqDiff, Go.Addr.add, ↓reduceIte] at hx392_0); (try simp only [show (1 : Int).toNat = 1 from rfl, Nat.reduceMul, Nat.reduceEqDiff, Go.Addr.add, ↓reduceIte] at hx392_1); (try simp only [show (1 : Int).toNat = 1 from rfl, Nat.reduceMul, Nat.reduceEqDiff, Go.Addr.add, ↓reduceIte] at hx392_2); (try simp only [show (1 : Int).toNat = 1 from rfl, Nat.reduceMul, Nat.reduceEqDiff, Go.Addr.add, ↓reduceIte] at hx392_3); have qi392 : (1 < t381.length) = True := eq_true (by omega); (try rw [show ((1 : Int)).toNat = 1 from rfl] at hx392_0); (try rw [show 1 * 4 = 4 from rfl] at hx392_0); (try rw [show ((1 : Int)).toNat = 1 from rfl] at hx392_1); (try rw [show 1 * 4 = 4 from rfl] at hx392_1); (try rw [show ((1 : Int)).toNat = 1 from rfl] at hx392_2); (try rw [show 1 * 4 = 4 from rfl] at hx392_2); (try rw [show ((1 : Int)).toNat = 1 from rfl] at hx392_3); (try rw [show 1 * 4 = 4 from rfl] at hx392_3); have HR392_3 := yJ hi392_3; have HC392_3 := yJ hl392_3; clear hi392_3 hl392_3; replace p392 := eq_true p392; replace q392 := eq_true q392) | (go_at_call 21; (with_reducible refine (term_IsKind.calls kj45 ((rd_T25 t381 1).f0) ((rd_T25 t381 1).f1) ((rd_T25 t381 1).f2) _ _ ((rd_T25 t381 1).f3) t393 _ ?side1 ?side2 A57.out).mono ?_); (case side1 => repeat (first | exact (by repeat (first | (with_reducible exact HR392_3.out) | (with_reducible refine Kd.C_alloc ?_ _) | (with_reducible refine Kd.C_drewN ?_ _) | (with_reducible refine Kd.C_drew ?_) | exact HR392_3.out)) | (with_reducible refine Kd.C_alloc ?_ _) | (with_reducible refine Kd.C_drewN ?_ _) | (with_reducible refine Kd.C_drew ?_))); (case side2 => exact HC392_3.out); rintro e w65 ⟨rfl, hb⟩; have n0_ := yJ (Kd.N_below (by (with_reducible repeat (first | apply Kd.N_alloc | apply Kd.N_drewN | apply Kd.N_drew)); exact HO_385003.out) hb); have n1_ := yJ (Kd.V_below (by (with_reducible repeat (first | apply Kd.V_alloc | apply Kd.V_drewN | apply Kd.V_drew)); exact HL390_3.out) hb); have n2_ := yJ (Kd.V_below (by (with_reducible repeat (first | apply Kd.V_alloc | apply Kd.V_drewN | apply Kd.V_drew)); exact HL392_3.out) hb); have n3_ := yJ (blk_below (g := gb384) (o := .cells #[.int .i64 t378, .string t379, .int .i64 t380, .slice (some ad390) t381.length co11] 25 (0, 0)) (by (with_reducible repeat (first | refine yA ?_ _ | refine yB ?_ | refine yC ?_ _)); exact BK384.out) hb); have n4_ := yJ (Kd.C_below (by repeat (first | (with_reducible exact HR390_3.out) | (with_reducible refine Kd.C_alloc ?_ _) | (with_reducible refine Kd.C_drewN ?_ _) | (with_reducible refine Kd.C_drew ?_) | exact HR390_3.out)) hb); have n5_ := yJ (Kd.C_below (by repeat (first | (with_reducible exact HR392_3.out) | (with_reducible refine Kd.C_alloc ?_ _) | (with_reducible refine Kd.C_drewN ?_ _) | (with_reducible refine Kd.C_drew ?_) | exact HR392_3.out)) hb); have n6_ := yJ (below_step (by repeat (first | (with_reducible first | exact HB.out | apply yF | apply yG | apply yH | refine yI ?_ GE384.out) | exact HB.out)) hb); clear HO_385003; clear HL390_3; clear HL392_3; clear BK384; clear HR390_3; clear HR392_3; clear HB; have HO_385003 := n0_; have HL390_3 := n1_; have HL392_3 := n2_; have BK384 := n3_; have HR390_3 := n4_; have HR392_3 := n5_; have HB := n6_; clear n0_ n1_ n2_ n3_ n4_ n5_ n6_; (try clear hb); (try clear hb2); (try clear hk); (try clear hi); have hcz66_0 : w65.cell? ⟨gb384, 0, none⟩ = some (.int .i64 t378) := (yE BK384.out 0).trans rfl; have hcz66_1 : w65.cell? ⟨gb384, 1, none⟩ = some (.string t379) := (yE BK384.out 1).trans rfl; have hcz66_2 : w65.cell? ⟨gb384, 2, none⟩ = some (.int .i64 t380) := (yE BK384.out 2).trans rfl; have hcz66_3 : w65.cell? ⟨gb384, 3, none⟩ = some (.slice (some ad390) t381.length co11) := (yE BK384.out 3).trans rfl; have hfz66_0 := yD BK384.out 0; have hfz66_1 := yD BK384.out 1; have hfz66_2 := yD BK384.out 2; have hfz66_3 := yD BK384.out 3; have p394 : 0 ≤ (1 : Int) := (by omega); have q394 : 1 < (t381.length : Int) := of_decide_eq_true (by first | (with_reducible assumption) | assumption); obtain ⟨ad394, A394_3, c394_3, e394, hx394_0, hx394_1, hx394_2, hx394_3, hl394_3, hi394_3⟩ := at_T25 (Kd.N_reads' HO_385003.out).2.2 1 p394 q394; obtain rfl : ad390 = ad394 := (by injection e394); obtain ⟨ce394, hce394, hMe394, hcc394⟩ := Kd.N_get HO_385003.out z25 1 p394 (by first | exact q394 | exact of_decide_eq_true (by first | (with_reducible assumption) | assumption) | (have e_ := (Kd.N_reads' HO_385003.out).1; omega)); obtain ⟨ua394_3, uc394_3, rfl, ul394_3, ge394_3⟩ := k25_openF hMe394; have hv394_3 := hcc394 3 _ rfl; rw [add_field _ _ 3 (by omega)] at hv394_3; replace hv394_3 := Option.some.inj (hv394_3.symm.trans hx394_3); injection hv394_3 with hva_ hvn_ hvc_; rw [hva_] at ge394_3; rw [hvc_] at ul394_3; have HL394_3 := yJ (show Kd.V k25 25 _ w.heap.size _ _ ((rd_T25 t381 1).f3) from Kd.V_mk ul394_3 ge394_3); clear hva_ hvn_ hvc_ ge394_3 ul394_3; clear hcc394 hce394; (try simp only [show (1 : Int).toNat = 1 from rfl, Nat.reduceMul, Nat.reduceEqDiff, Go.Addr.add, ↓reduceIte] at hx394_0); (try simp only [show (1 : Int).toNat = 1 from rfl, Nat.reduceMul, Nat.reduceEqDiff, Go.Addr.add, ↓reduceIte] at hx394_1); (try simp only [show (1 : Int).toNat = 1 from rfl, Nat.reduceMul, Nat.reduceEqDiff, Go.Addr.add, ↓reduceIte] at hx394_2); (try simp only [show (1 : Int).toNat = 1 from rfl, Nat.reduceMul, Nat.reduceEqDiff, Go.Addr.add, ↓reduceIte] at hx394_3); have qi394 : (1 < t381.length) = True := eq_true (by omega); (try rw [show ((1 : Int)).toNat = 1 from rfl] at hx394_0); (try rw [show 1 * 4 = 4 from rfl] at hx394_0); (try rw [show ((1 : Int)).toNat = 1 from rfl] at hx394_1); (try rw [show 1 * 4 = 4 from rfl] at hx394_1); (try rw [show ((1 : Int)).toNat = 1 from rfl] at hx394_2); (try rw [show 1 * 4 = 4 from rfl] at hx394_2); (try rw [show ((1 : Int)).toNat = 1 from rfl] at hx394_3); (try rw [show 1 * 4 = 4 from rfl] at hx394_3); have HR394_3 := yJ hi394_3; have HC394_3 := yJ hl394_3; clear hi394_3 hl394_3; replace p394 := eq_true p394; replace q394 := eq_true q394) | (go_at_call 23; (with_reducible refine (term_IsType.calls kj45 ((rd_T25 t381 1).f0) ((rd_T25 t381 1).f1) ((rd_T25 t381 1).f2) _ _ ((rd_T25 t381 1).f3) t395 _ ?side1 ?side2 A59.out).mono ?_); (case side1 => repeat (first | exact (by repeat (first | (with_reducible exact HR394_3.out) | (with_reducible refine Kd.C_alloc ?_ _) | (with_reducible refine Kd.C_drewN ?_ _) | (with_reducible refine Kd.C_drew ?_) | exact HR394_3.out)) | (with_reducible refine Kd.C_alloc ?_ _) | (with_reducible refine Kd.C_drewN ?_ _) | (with_reducible refine Kd.C_drew ?_))); (case side2 => exact HC394_3.out); rintro e w67 ⟨rfl, hb⟩; have n0_ := yJ (Kd.N_below (by (with_reducible repeat (first | apply Kd.N_alloc | apply Kd.N_drewN | apply Kd.N_drew)); exact HO_385003.out) hb); have n1_ := yJ (Kd.V_below (by (with_reducible repeat (first | apply Kd.V_alloc | apply Kd.V_drewN | apply Kd.V_drew)); exact HL390_3.out) hb); have n2_ := yJ (Kd.V_below (by (with_reducible repeat (first | apply Kd.V_alloc | apply Kd.V_drewN | apply Kd.V_drew)); exact HL392_3.out) hb); have n3_ := yJ (Kd.V_below (by (with_reducible repeat (first | apply Kd.V_alloc | apply Kd.V_drewN | apply Kd.V_drew)); exact HL394_3.out) hb); have n4_ := yJ (blk_below (g := gb384) (o := .cells #[.int .i64 t378, .string t379, .int .i64 t380, .slice (some ad390) t381.length co11] 25 (0, 0)) (by (with_reducible repeat (first | refine yA ?_ _ | refine yB ?_ | refine yC ?_ _)); exact BK384.out) hb); have n5_ := yJ (Kd.C_below (by repeat (first | (with_reducible exact HR390_3.out) | (with_reducible refine Kd.C_alloc ?_ _) | (with_reducible refine Kd.C_drewN ?_ _) | (with_reducible refine Kd.C_drew ?_) | exact HR390_3.out)) hb); have n6_ := yJ (Kd.C_below (by repeat (first | (with_reducible exact HR392_3.out) | (with_reducible refine Kd.C_alloc ?_ _) | (with_reducible refine Kd.C_drewN ?_ _) | (with_reducible refine Kd.C_drew ?_) | exact HR392_3.out)) hb); have n7_ := yJ (Kd.C_below (by repeat (first | (with_reducible exact HR394_3.out) | (with_reducible refine Kd.C_alloc ?_ _) | (with_reducible refine Kd.C_drewN ?_ _) | (with_reducible refine Kd.C_drew ?_) | exact HR394_3.out)) hb); have n8_ := yJ (below_step (by repeat (first | (with_reducible first | exact HB.out | apply yF | apply yG | apply yH | refine yI ?_ GE384.out) | exact HB.out)) hb); clear HO_385003; clear HL390_3; clear HL392_3; clear HL394_3; clear BK384; clear HR390_3; clear HR392_3; clear HR394_3; clear HB; have HO_385003 := n0_; have HL390_3 := n1_; have HL392_3 := n2_; have HL394_3 := n3_; have BK384 := n4_; have HR390_3 := n5_; have HR392_3 := n6_; have HR394_3 := n7_; have HB := n8_; clear n0_ n1_ n2_ n3_ n4_ n5_ n6_ n7_ n8_; (try clear hb); (try clear hb2); (try clear hk); (try clear hi)) | (go_at_call 41; (with_reducible refine (f5_awake.calls  t396 _ A61.out).mono ?_); rintro e w68 ⟨rfl, hb⟩; have n0_ := yJ (Kd.N_below (by (with_reducible repeat (first | apply Kd.N_alloc | apply Kd.N_drewN | apply Kd.N_drew)); exact HO_385003.out) hb); have n1_ := yJ (Kd.V_below (by (with_reducible repeat (first | apply Kd.V_alloc | apply Kd.V_drewN | apply Kd.V_drew)); exact HL390_3.out) hb); have n2_ := yJ (Kd.V_below (by (with_reducible repeat (first | apply Kd.V_alloc | apply Kd.V_drewN | apply Kd.V_drew)); exact HL392_3.out) hb); have n3_ := yJ (Kd.V_below (by (with_reducible repeat (first | apply Kd.V_alloc | apply Kd.V_drewN | apply Kd.V_drew)); exact HL394_3.out) hb); have n4_ := yJ (blk_below (g := gb384) (o := .cells #[.int .i64 t378, .string t379, .int .i64 t380, .slice (some ad390) t381.length co11] 25 (0, 0)) (by (with_reducible repeat (first | refine yA ?_ _ | refine yB ?_ | refine yC ?_ _)); exact BK384.out) hb); have n5_ := yJ (Kd.C_below (by repeat (first | (with_reducible exact HR390_3.out) | (with_reducible refine Kd.C_alloc ?_ _) | (with_reducible refine Kd.C_drewN ?_ _) | (with_reducible refine Kd.C_drew ?_) | exact HR390_3.out)) hb); have n6_ := yJ (Kd.C_below (by repeat (first | (with_reducible exact HR392_3.out) | (with_reducible refine Kd.C_alloc ?_ _) | (with_reducible refine Kd.C_drewN ?_ _) | (with_reducible refine Kd.C_drew ?_) | exact HR392_3.out)) hb); have n7_ := yJ (Kd.C_below (by repeat (first | (with_reducible exact HR394_3.out) | (with_reducible refine Kd.C_alloc ?_ _) | (with_reducible refine Kd.C_drewN ?_ _) | (with_reducible refine Kd.C_drew ?_) | exact HR394_3.out)) hb); have n8_ := yJ (below_step (by repeat (first | (with_reducible first | exact HB.out | apply yF | apply yG | apply yH | refine yI ?_ GE384.out) | exact HB.out)) hb); clear HO_385003; clear HL390_3; clear HL392_3; clear HL394_3; clear BK384; clear HR390_3; clear HR392_3; clear HR394_3; clear HB; have HO_385003 := n0_; have HL390_3 := n1_; have HL392_3 := n2_; have HL394_3 := n3_; have BK384 := n4_; have HR390_3 := n5_; have HR392_3 := n6_; have HR394_3 := n7_; have HB := n8_; clear n0_ n1_ n2_ n3_ n4_ n5_ n6_ n7_ n8_; (try clear hb); (try clear hb2); (try clear hk); (try clear hi)))
             go_ret
             exact ⟨by first | rfl | (simp [errW_none, errW_some] <;> rfl) | (simp [*, errW_none, errW_some] <;> rfl), by repeat (first | (with_reducible first | exact HB.out | apply yF | apply yG | apply yH | refine yI ?_ GE384.out) | exact HB.out)⟩
            ·rw [if_neg c60] at H
             have c60b0 : (t395 == t386) = false := by simpa using c60
             (try (have c60b1 : decide (t395 = t386) = false := by simpa using c60))
             (try (have c60b2 : (t395 == t386) = false := by simpa using c60))
             (try (have c60b3 : ¬ (t395 = t386) := by simpa using c60))
             clear c60
             obtain rfl := Option.some.inj H
             have hcz69_0 : wc.cell? ⟨gb384, 0, none⟩ = some (.int .i64 t378) := (yE BK384.out 0).trans rfl
             have hcz69_1 : wc.cell? ⟨gb384, 1, none⟩ = some (.string t379) := (yE BK384.out 1).trans rfl
             have hcz69_2 : wc.cell? ⟨gb384, 2, none⟩ = some (.int .i64 t380) := (yE BK384.out 2).trans rfl
             have hcz69_3 : wc.cell? ⟨gb384, 3, none⟩ = some (.slice Ao11 t381.length co11) := (yE BK384.out 3).trans rfl
             have hfz69_0 := yD BK384.out 0
             have hfz69_1 := yD BK384.out 1
             have hfz69_2 := yD BK384.out 2
             have hfz69_3 := yD BK384.out 3
             have p390 : 0 ≤ (0 : Int) := (by omega)
             have q390 : 0 < (t381.length : Int) := of_decide_eq_true (by first | (with_reducible assumption) | assumption)
             obtain ⟨ad390, A390_3, c390_3, e390, hx390_0, hx390_1, hx390_2, hx390_3, hl390_3, hi390_3⟩ := at_T25 (Kd.N_reads' HO_385003.out).2.2 0 p390 q390
             cases e390
             obtain ⟨ce390, hce390, hMe390, hcc390⟩ := Kd.N_get HO_385003.out z25 0 p390 (by first | exact q390 | exact of_decide_eq_true (by first | (with_reducible assumption) | assumption) | (have e_ := (Kd.N_reads' HO_385003.out).1; omega))
             obtain ⟨ua390_3, uc390_3, rfl, ul390_3, ge390_3⟩ := k25_openF hMe390
             have hv390_3 := hcc390 3 _ rfl
             rw [add_field _ _ 3 (by omega)] at hv390_3
             replace hv390_3 := Option.some.inj (hv390_3.symm.trans hx390_3)
             injection hv390_3 with hva_ hvn_ hvc_
             rw [hva_] at ge390_3
             rw [hvc_] at ul390_3
             have HL390_3 := yJ (show Kd.V k25 25 _ w.heap.size _ _ ((rd_T25 t381 0).f3) from Kd.V_mk ul390_3 ge390_3)
             clear hva_ hvn_ hvc_ ge390_3 ul390_3 hcc390 hce390
             have qi390 : (0 < t381.length) = True := eq_true (by omega)
             (try rw [show ((0 : Int)).toNat = 0 from rfl] at hx390_0)
             (try rw [show 0 * 4 = 0 from rfl] at hx390_0)
             (try rw [Addr.add_zero'] at hx390_0)
             (try rw [show ((0 : Int)).toNat = 0 from rfl] at hx390_1)
             (try rw [show 0 * 4 = 0 from rfl] at hx390_1)
             (try rw [Addr.add_zero'] at hx390_1)
             (try rw [show ((0 : Int)).toNat = 0 from rfl] at hx390_2)
             (try rw [show 0 * 4 = 0 from rfl] at hx390_2)
             (try rw [Addr.add_zero'] at hx390_2)
             (try rw [show ((0 : Int)).toNat = 0 from rfl] at hx390_3)
             (try rw [show 0 * 4 = 0 from rfl] at hx390_3)
             (try rw [Addr.add_zero'] at hx390_3)
             have HR390_3 := yJ hi390_3;have HC390_3 := yJ hl390_3;clear hi390_3 hl390_3;replace p390 := eq_true p390;replace q390 := eq_true q390
             go_wp2_with (first | ((with_reducible refine gate_callee (f := 23) rfl ?_); refine goesL_ (some 69) rfl rfl Tryd.func23 (by kernel_rfl) rfl #[.agg #[.int .i64 ((rd_T25 t381 0).f0), .string ((rd_T25 t381 0).f1), .int .i64 ((rd_T25 t381 0).f2), .slice A390_3 ((rd_T25 t381 0).f3).length c390_3]] rfl (by (try simp only [List.map_toArray, List.map_cons, List.map_nil]); first | done | rfl | (simp only [List.length_drop, List.length_take]; rfl)) ?_; (with_reducible refine (term_IsType.calls kj45 ((rd_T25 t381 0).f0) ((rd_T25 t381 0).f1) ((rd_T25 t381 0).f2) _ _ ((rd_T25 t381 0).f3) true _ ?side1 ?side2 A54.out).mono ?_); (case side1 => repeat (first | exact (by repeat (first | (with_reducible exact HR390_3.out) | (with_reducible refine Kd.C_alloc ?_ _) | (with_reducible refine Kd.C_drewN ?_ _) | (with_reducible refine Kd.C_drew ?_) | exact HR390_3.out)) | (with_reducible refine Kd.C_alloc ?_ _) | (with_reducible refine Kd.C_drewN ?_ _) | (with_reducible refine Kd.C_drew ?_))); (case side2 => exact HC390_3.out); rintro e w70 ⟨rfl, hb⟩; refine ⟨_, rfl, ?_⟩; have n0_ := yJ (Kd.N_below (by (with_reducible repeat (first | apply Kd.N_alloc | apply Kd.N_drewN | apply Kd.N_drew)); exact HO_385003.out) hb); have n1_ := yJ (Kd.V_below (by (with_reducible repeat (first | apply Kd.V_alloc | apply Kd.V_drewN | apply Kd.V_drew)); exact HL390_3.out) hb); have n2_ := yJ (blk_below (g := gb384) (o := .cells #[.int .i64 t378, .string t379, .int .i64 t380, .slice (some ad390) t381.length co11] 25 (0, 0)) (by (with_reducible repeat (first | refine yA ?_ _ | refine yB ?_ | refine yC ?_ _)); exact BK384.out) hb); have n3_ := yJ (Kd.C_below (by repeat (first | (with_reducible exact HR390_3.out) | (with_reducible refine Kd.C_alloc ?_ _) | (with_reducible refine Kd.C_drewN ?_ _) | (with_reducible refine Kd.C_drew ?_) | exact HR390_3.out)) hb); have n4_ := yJ (below_step (by repeat (first | (with_reducible first | exact HB.out | apply yF | apply yG | apply yH | refine yI ?_ GE384.out) | exact HB.out)) hb); clear HO_385003; clear HL390_3; clear BK384; clear HR390_3; clear HB; have HO_385003 := n0_; have HL390_3 := n1_; have BK384 := n2_; have HR390_3 := n3_; have HB := n4_; clear n0_ n1_ n2_ n3_ n4_; (try clear hb); (try clear hb2); (try clear hk); (try clear hi); have hcz71_0 : w70.cell? ⟨gb384, 0, none⟩ = some (.int .i64 t378) := (yE BK384.out 0).trans rfl; have hcz71_1 : w70.cell? ⟨gb384, 1, none⟩ = some (.string t379) := (yE BK384.out 1).trans rfl; have hcz71_2 : w70.cell? ⟨gb384, 2, none⟩ = some (.int .i64 t380) := (yE BK384.out 2).trans rfl; have hcz71_3 : w70.cell? ⟨gb384, 3, none⟩ = some (.slice (some ad390) t381.length co11) := (yE BK384.out 3).trans rfl; have hfz71_0 := yD BK384.out 0; have hfz71_1 := yD BK384.out 1; have hfz71_2 := yD BK384.out 2; have hfz71_3 := yD BK384.out 3; have p392 : 0 ≤ (1 : Int) := (by omega); have q392 : 1 < (t381.length : Int) := of_decide_eq_true (by first | (with_reducible assumption) | assumption); obtain ⟨ad392, A392_3, c392_3, e392, hx392_0, hx392_1, hx392_2, hx392_3, hl392_3, hi392_3⟩ := at_T25 (Kd.N_reads' HO_385003.out).2.2 1 p392 q392; obtain rfl : ad390 = ad392 := (by injection e392); obtain ⟨ce392, hce392, hMe392, hcc392⟩ := Kd.N_get HO_385003.out z25 1 p392 (by first | exact q392 | exact of_decide_eq_true (by first | (with_reducible assumption) | assumption) | (have e_ := (Kd.N_reads' HO_385003.out).1; omega)); obtain ⟨ua392_3, uc392_3, rfl, ul392_3, ge392_3⟩ := k25_openF hMe392; have hv392_3 := hcc392 3 _ rfl; rw [add_field _ _ 3 (by omega)] at hv392_3; replace hv392_3 := Option.some.inj (hv392_3.symm.trans hx392_3); injection hv392_3 with hva_ hvn_ hvc_; rw [hva_] at ge392_3; rw [hvc_] at ul392_3; have HL392_3 := yJ (show Kd.V k25 25 _ w.heap.size _ _ ((rd_T25 t381 1).f3) from Kd.V_mk ul392_3 ge392_3); clear hva_ hvn_ hvc_ ge392_3 ul392_3; clear hcc392 hce392; (try simp only [show (1 : Int).toNat = 1 from rfl, Nat.reduceMul, Nat.reduceEqDiff, Go.Addr.add, ↓reduceIte] at hx392_0); (try simp only [show (1 : Int).toNat = 1 from rfl, Nat.reduceMul, Nat.reduceEqDiff, Go.Addr.add, ↓reduceIte] at hx392_1); (try simp only [show (1 : Int).toNat = 1 from rfl, Nat.reduceMul, Nat.reduceEqDiff, Go.Addr.add, ↓reduceIte] at hx392_2); (try simp only [show (1 : Int).toNat = 1 from rfl, Nat.reduceMul, Nat.reduceEqDiff, Go.Addr.add, ↓reduceIte] at hx392_3); have qi392 : (1 < t381.length) = True := eq_true (by omega); (try rw [show ((1 : Int)).toNat = 1 from rfl] at hx392_0); (try rw [show 1 * 4 = 4 from rfl] at hx392_0); (try rw [show ((1 : Int)).toNat = 1 from rfl] at hx392_1); (try rw [show 1 * 4 = 4 from rfl] at hx392_1); (try rw [show ((1 : Int)).toNat = 1 from rfl] at hx392_2); (try rw [show 1 * 4 = 4 from rfl] at hx392_2); (try rw [show ((1 : Int)).toNat = 1 from rfl] at hx392_3); (try rw [show 1 * 4 = 4 from rfl] at hx392_3); have HR392_3 := yJ hi392_3; have HC392_3 := yJ hl392_3; clear hi392_3 hl392_3; replace p392 := eq_true p392; replace q392 := eq_true q392) | (go_at_call 21; (with_reducible refine (term_IsKind.calls kj45 ((rd_T25 t381 1).f0) ((rd_T25 t381 1).f1) ((rd_T25 t381 1).f2) _ _ ((rd_T25 t381 1).f3) t393 _ ?side1 ?side2 A57.out).mono ?_); (case side1 => repeat (first | exact (by repeat (first | (with_reducible exact HR392_3.out) | (with_reducible refine Kd.C_alloc ?_ _) | (with_reducible refine Kd.C_drewN ?_ _) | (with_reducible refine Kd.C_drew ?_) | exact HR392_3.out)) | (with_reducible refine Kd.C_alloc ?_ _) | (with_reducible refine Kd.C_drewN ?_ _) | (with_reducible refine Kd.C_drew ?_))); (case side2 => exact HC392_3.out); rintro e w72 ⟨rfl, hb⟩; have n0_ := yJ (Kd.N_below (by (with_reducible repeat (first | apply Kd.N_alloc | apply Kd.N_drewN | apply Kd.N_drew)); exact HO_385003.out) hb); have n1_ := yJ (Kd.V_below (by (with_reducible repeat (first | apply Kd.V_alloc | apply Kd.V_drewN | apply Kd.V_drew)); exact HL390_3.out) hb); have n2_ := yJ (Kd.V_below (by (with_reducible repeat (first | apply Kd.V_alloc | apply Kd.V_drewN | apply Kd.V_drew)); exact HL392_3.out) hb); have n3_ := yJ (blk_below (g := gb384) (o := .cells #[.int .i64 t378, .string t379, .int .i64 t380, .slice (some ad390) t381.length co11] 25 (0, 0)) (by (with_reducible repeat (first | refine yA ?_ _ | refine yB ?_ | refine yC ?_ _)); exact BK384.out) hb); have n4_ := yJ (Kd.C_below (by repeat (first | (with_reducible exact HR390_3.out) | (with_reducible refine Kd.C_alloc ?_ _) | (with_reducible refine Kd.C_drewN ?_ _) | (with_reducible refine Kd.C_drew ?_) | exact HR390_3.out)) hb); have n5_ := yJ (Kd.C_below (by repeat (first | (with_reducible exact HR392_3.out) | (with_reducible refine Kd.C_alloc ?_ _) | (with_reducible refine Kd.C_drewN ?_ _) | (with_reducible refine Kd.C_drew ?_) | exact HR392_3.out)) hb); have n6_ := yJ (below_step (by repeat (first | (with_reducible first | exact HB.out | apply yF | apply yG | apply yH | refine yI ?_ GE384.out) | exact HB.out)) hb); clear HO_385003; clear HL390_3; clear HL392_3; clear BK384; clear HR390_3; clear HR392_3; clear HB; have HO_385003 := n0_; have HL390_3 := n1_; have HL392_3 := n2_; have BK384 := n3_; have HR390_3 := n4_; have HR392_3 := n5_; have HB := n6_; clear n0_ n1_ n2_ n3_ n4_ n5_ n6_; (try clear hb); (try clear hb2); (try clear hk); (try clear hi); have hcz73_0 : w72.cell? ⟨gb384, 0, none⟩ = some (.int .i64 t378) := (yE BK384.out 0).trans rfl; have hcz73_1 : w72.cell? ⟨gb384, 1, none⟩ = some (.string t379) := (yE BK384.out 1).trans rfl; have hcz73_2 : w72.cell? ⟨gb384, 2, none⟩ = some (.int .i64 t380) := (yE BK384.out 2).trans rfl; have hcz73_3 : w72.cell? ⟨gb384, 3, none⟩ = some (.slice (some ad390) t381.length co11) := (yE BK384.out 3).trans rfl; have hfz73_0 := yD BK384.out 0; have hfz73_1 := yD BK384.out 1; have hfz73_2 := yD BK384.out 2; have hfz73_3 := yD BK384.out 3; have p394 : 0 ≤ (1 : Int) := (by omega); have q394 : 1 < (t381.length : Int) := of_decide_eq_true (by first | (with_reducible assumption) | assumption); obtain ⟨ad394, A394_3, c394_3, e394, hx394_0, hx394_1, hx394_2, hx394_3, hl394_3, hi394_3⟩ := at_T25 (Kd.N_reads' HO_385003.out).2.2 1 p394 q394; obtain rfl : ad390 = ad394 := (by injection e394); obtain ⟨ce394, hce394, hMe394, hcc394⟩ := Kd.N_get HO_385003.out z25 1 p394 (by first | exact q394 | exact of_decide_eq_true (by first | (with_reducible assumption) | assumption) | (have e_ := (Kd.N_reads' HO_385003.out).1; omega)); obtain ⟨ua394_3, uc394_3, rfl, ul394_3, ge394_3⟩ := k25_openF hMe394; have hv394_3 := hcc394 3 _ rfl; rw [add_field _ _ 3 (by omega)] at hv394_3; replace hv394_3 := Option.some.inj (hv394_3.symm.trans hx394_3); injection hv394_3 with hva_ hvn_ hvc_; rw [hva_] at ge394_3; rw [hvc_] at ul394_3; have HL394_3 := yJ (show Kd.V k25 25 _ w.heap.size _ _ ((rd_T25 t381 1).f3) from Kd.V_mk ul394_3 ge394_3); clear hva_ hvn_ hvc_ ge394_3 ul394_3; clear hcc394 hce394; (try simp only [show (1 : Int).toNat = 1 from rfl, Nat.reduceMul, Nat.reduceEqDiff, Go.Addr.add, ↓reduceIte] at hx394_0); (try simp only [show (1 : Int).toNat = 1 from rfl, Nat.reduceMul, Nat.reduceEqDiff, Go.Addr.add, ↓reduceIte] at hx394_1); (try simp only [show (1 : Int).toNat = 1 from rfl, Nat.reduceMul, Nat.reduceEqDiff, Go.Addr.add, ↓reduceIte] at hx394_2); (try simp only [show (1 : Int).toNat = 1 from rfl, Nat.reduceMul, Nat.reduceEqDiff, Go.Addr.add, ↓reduceIte] at hx394_3); have qi394 : (1 < t381.length) = True := eq_true (by omega); (try rw [show ((1 : Int)).toNat = 1 from rfl] at hx394_0); (try rw [show 1 * 4 = 4 from rfl] at hx394_0); (try rw [show ((1 : Int)).toNat = 1 from rfl] at hx394_1); (try rw [show 1 * 4 = 4 from rfl] at hx394_1); (try rw [show ((1 : Int)).toNat = 1 from rfl] at hx394_2); (try rw [show 1 * 4 = 4 from rfl] at hx394_2); (try rw [show ((1 : Int)).toNat = 1 from rfl] at hx394_3); (try rw [show 1 * 4 = 4 from rfl] at hx394_3); have HR394_3 := yJ hi394_3; have HC394_3 := yJ hl394_3; clear hi394_3 hl394_3; replace p394 := eq_true p394; replace q394 := eq_true q394) | (go_at_call 23; (with_reducible refine (term_IsType.calls kj45 ((rd_T25 t381 1).f0) ((rd_T25 t381 1).f1) ((rd_T25 t381 1).f2) _ _ ((rd_T25 t381 1).f3) t395 _ ?side1 ?side2 A59.out).mono ?_); (case side1 => repeat (first | exact (by repeat (first | (with_reducible exact HR394_3.out) | (with_reducible refine Kd.C_alloc ?_ _) | (with_reducible refine Kd.C_drewN ?_ _) | (with_reducible refine Kd.C_drew ?_) | exact HR394_3.out)) | (with_reducible refine Kd.C_alloc ?_ _) | (with_reducible refine Kd.C_drewN ?_ _) | (with_reducible refine Kd.C_drew ?_))); (case side2 => exact HC394_3.out); rintro e w74 ⟨rfl, hb⟩; have n0_ := yJ (Kd.N_below (by (with_reducible repeat (first | apply Kd.N_alloc | apply Kd.N_drewN | apply Kd.N_drew)); exact HO_385003.out) hb); have n1_ := yJ (Kd.V_below (by (with_reducible repeat (first | apply Kd.V_alloc | apply Kd.V_drewN | apply Kd.V_drew)); exact HL390_3.out) hb); have n2_ := yJ (Kd.V_below (by (with_reducible repeat (first | apply Kd.V_alloc | apply Kd.V_drewN | apply Kd.V_drew)); exact HL392_3.out) hb); have n3_ := yJ (Kd.V_below (by (with_reducible repeat (first | apply Kd.V_alloc | apply Kd.V_drewN | apply Kd.V_drew)); exact HL394_3.out) hb); have n4_ := yJ (blk_below (g := gb384) (o := .cells #[.int .i64 t378, .string t379, .int .i64 t380, .slice (some ad390) t381.length co11] 25 (0, 0)) (by (with_reducible repeat (first | refine yA ?_ _ | refine yB ?_ | refine yC ?_ _)); exact BK384.out) hb); have n5_ := yJ (Kd.C_below (by repeat (first | (with_reducible exact HR390_3.out) | (with_reducible refine Kd.C_alloc ?_ _) | (with_reducible refine Kd.C_drewN ?_ _) | (with_reducible refine Kd.C_drew ?_) | exact HR390_3.out)) hb); have n6_ := yJ (Kd.C_below (by repeat (first | (with_reducible exact HR392_3.out) | (with_reducible refine Kd.C_alloc ?_ _) | (with_reducible refine Kd.C_drewN ?_ _) | (with_reducible refine Kd.C_drew ?_) | exact HR392_3.out)) hb); have n7_ := yJ (Kd.C_below (by repeat (first | (with_reducible exact HR394_3.out) | (with_reducible refine Kd.C_alloc ?_ _) | (with_reducible refine Kd.C_drewN ?_ _) | (with_reducible refine Kd.C_drew ?_) | exact HR394_3.out)) hb); have n8_ := yJ (below_step (by repeat (first | (with_reducible first | exact HB.out | apply yF | apply yG | apply yH | refine yI ?_ GE384.out) | exact HB.out)) hb); clear HO_385003; clear HL390_3; clear HL392_3; clear HL394_3; clear BK384; clear HR390_3; clear HR392_3; clear HR394_3; clear HB; have HO_385003 := n0_; have HL390_3 := n1_; have HL392_3 := n2_; have HL394_3 := n3_; have BK384 := n4_; have HR390_3 := n5_; have HR392_3 := n6_; have HR394_3 := n7_; have HB := n8_; clear n0_ n1_ n2_ n3_ n4_ n5_ n6_ n7_ n8_; (try clear hb); (try clear hb2); (try clear hk); (try clear hi)))
             go_ret
             exact ⟨by first | rfl | (simp [errW_none, errW_some] <;> rfl) | (simp [*, errW_none, errW_some] <;> rfl), by repeat (first | (with_reducible first | exact HB.out | apply yF | apply yG | apply yH | refine yI ?_ GE384.out) | exact HB.out)⟩
           ·rw [if_neg c58] at H
            have c58b0 : (t393 == t385) = false := by simpa using c58
            (try (have c58b1 : decide (t393 = t385) = false := by simpa using c58))
            (try (have c58b2 : (t393 == t385) = false := by simpa using c58))
            (try (have c58b3 : ¬ (t393 = t385) := by simpa using c58))
            clear c58
            obtain rfl := Option.some.inj H
            have hcz75_0 : wc.cell? ⟨gb384, 0, none⟩ = some (.int .i64 t378) := (yE BK384.out 0).trans rfl
            have hcz75_1 : wc.cell? ⟨gb384, 1, none⟩ = some (.string t379) := (yE BK384.out 1).trans rfl
            have hcz75_2 : wc.cell? ⟨gb384, 2, none⟩ = some (.int .i64 t380) := (yE BK384.out 2).trans rfl
            have hcz75_3 : wc.cell? ⟨gb384, 3, none⟩ = some (.slice Ao11 t381.length co11) := (yE BK384.out 3).trans rfl
            have hfz75_0 := yD BK384.out 0
            have hfz75_1 := yD BK384.out 1
            have hfz75_2 := yD BK384.out 2
            have hfz75_3 := yD BK384.out 3
            have p390 : 0 ≤ (0 : Int) := (by omega)
            have q390 : 0 < (t381.length : Int) := of_decide_eq_true (by first | (with_reducible assumption) | assumption)
            obtain ⟨ad390, A390_3, c390_3, e390, hx390_0, hx390_1, hx390_2, hx390_3, hl390_3, hi390_3⟩ := at_T25 (Kd.N_reads' HO_385003.out).2.2 0 p390 q390
            cases e390
            obtain ⟨ce390, hce390, hMe390, hcc390⟩ := Kd.N_get HO_385003.out z25 0 p390 (by first | exact q390 | exact of_decide_eq_true (by first | (with_reducible assumption) | assumption) | (have e_ := (Kd.N_reads' HO_385003.out).1; omega))
            obtain ⟨ua390_3, uc390_3, rfl, ul390_3, ge390_3⟩ := k25_openF hMe390
            have hv390_3 := hcc390 3 _ rfl
            rw [add_field _ _ 3 (by omega)] at hv390_3
            replace hv390_3 := Option.some.inj (hv390_3.symm.trans hx390_3)
            injection hv390_3 with hva_ hvn_ hvc_
            rw [hva_] at ge390_3
            rw [hvc_] at ul390_3
            have HL390_3 := yJ (show Kd.V k25 25 _ w.heap.size _ _ ((rd_T25 t381 0).f3) from Kd.V_mk ul390_3 ge390_3)
            clear hva_ hvn_ hvc_ ge390_3 ul390_3 hcc390 hce390
            have qi390 : (0 < t381.length) = True := eq_true (by omega)
            (try rw [show ((0 : Int)).toNat = 0 from rfl] at hx390_0)
            (try rw [show 0 * 4 = 0 from rfl] at hx390_0)
            (try rw [Addr.add_zero'] at hx390_0)
            (try rw [show ((0 : Int)).toNat = 0 from rfl] at hx390_1)
            (try rw [show 0 * 4 = 0 from rfl] at hx390_1)
            (try rw [Addr.add_zero'] at hx390_1)
            (try rw [show ((0 : Int)).toNat = 0 from rfl] at hx390_2)
            (try rw [show 0 * 4 = 0 from rfl] at hx390_2)
            (try rw [Addr.add_zero'] at hx390_2)
            (try rw [show ((0 : Int)).toNat = 0 from rfl] at hx390_3)
            (try rw [show 0 * 4 = 0 from rfl] at hx390_3)
            (try rw [Addr.add_zero'] at hx390_3)
            have HR390_3 := yJ hi390_3;have HC390_3 := yJ hl390_3;clear hi390_3 hl390_3;replace p390 := eq_true p390;replace q390 := eq_true q390
            go_wp2_with (first | ((with_reducible refine gate_callee (f := 23) rfl ?_); refine goesL_ (some 69) rfl rfl Tryd.func23 (by kernel_rfl) rfl #[.agg #[.int .i64 ((rd_T25 t381 0).f0), .string ((rd_T25 t381 0).f1), .int .i64 ((rd_T25 t381 0).f2), .slice A390_3 ((rd_T25 t381 0).f3).length c390_3]] rfl (by (try simp only [List.map_toArray, List.map_cons, List.map_nil]); first | done | rfl | (simp only [List.length_drop, List.length_take]; rfl)) ?_; (with_reducible refine (term_IsType.calls kj45 ((rd_T25 t381 0).f0) ((rd_T25 t381 0).f1) ((rd_T25 t381 0).f2) _ _ ((rd_T25 t381 0).f3) true _ ?side1 ?side2 A54.out).mono ?_); (case side1 => repeat (first | exact (by repeat (first | (with_reducible exact HR390_3.out) | (with_reducible refine Kd.C_alloc ?_ _) | (with_reducible refine Kd.C_drewN ?_ _) | (with_reducible refine Kd.C_drew ?_) | exact HR390_3.out)) | (with_reducible refine Kd.C_alloc ?_ _) | (with_reducible refine Kd.C_drewN ?_ _) | (with_reducible refine Kd.C_drew ?_))); (case side2 => exact HC390_3.out); rintro e w76 ⟨rfl, hb⟩; refine ⟨_, rfl, ?_⟩; have n0_ := yJ (Kd.N_below (by (with_reducible repeat (first | apply Kd.N_alloc | apply Kd.N_drewN | apply Kd.N_drew)); exact HO_385003.out) hb); have n1_ := yJ (Kd.V_below (by (with_reducible repeat (first | apply Kd.V_alloc | apply Kd.V_drewN | apply Kd.V_drew)); exact HL390_3.out) hb); have n2_ := yJ (blk_below (g := gb384) (o := .cells #[.int .i64 t378, .string t379, .int .i64 t380, .slice (some ad390) t381.length co11] 25 (0, 0)) (by (with_reducible repeat (first | refine yA ?_ _ | refine yB ?_ | refine yC ?_ _)); exact BK384.out) hb); have n3_ := yJ (Kd.C_below (by repeat (first | (with_reducible exact HR390_3.out) | (with_reducible refine Kd.C_alloc ?_ _) | (with_reducible refine Kd.C_drewN ?_ _) | (with_reducible refine Kd.C_drew ?_) | exact HR390_3.out)) hb); have n4_ := yJ (below_step (by repeat (first | (with_reducible first | exact HB.out | apply yF | apply yG | apply yH | refine yI ?_ GE384.out) | exact HB.out)) hb); clear HO_385003; clear HL390_3; clear BK384; clear HR390_3; clear HB; have HO_385003 := n0_; have HL390_3 := n1_; have BK384 := n2_; have HR390_3 := n3_; have HB := n4_; clear n0_ n1_ n2_ n3_ n4_; (try clear hb); (try clear hb2); (try clear hk); (try clear hi); have hcz77_0 : w76.cell? ⟨gb384, 0, none⟩ = some (.int .i64 t378) := (yE BK384.out 0).trans rfl; have hcz77_1 : w76.cell? ⟨gb384, 1, none⟩ = some (.string t379) := (yE BK384.out 1).trans rfl; have hcz77_2 : w76.cell? ⟨gb384, 2, none⟩ = some (.int .i64 t380) := (yE BK384.out 2).trans rfl; have hcz77_3 : w76.cell? ⟨gb384, 3, none⟩ = some (.slice (some ad390) t381.length co11) := (yE BK384.out 3).trans rfl; have hfz77_0 := yD BK384.out 0; have hfz77_1 := yD BK384.out 1; have hfz77_2 := yD BK384.out 2; have hfz77_3 := yD BK384.out 3; have p392 : 0 ≤ (1 : Int) := (by omega); have q392 : 1 < (t381.length : Int) := of_decide_eq_true (by first | (with_reducible assumption) | assumption); obtain ⟨ad392, A392_3, c392_3, e392, hx392_0, hx392_1, hx392_2, hx392_3, hl392_3, hi392_3⟩ := at_T25 (Kd.N_reads' HO_385003.out).2.2 1 p392 q392; obtain rfl : ad390 = ad392 := (by injection e392); obtain ⟨ce392, hce392, hMe392, hcc392⟩ := Kd.N_get HO_385003.out z25 1 p392 (by first | exact q392 | exact of_decide_eq_true (by first | (with_reducible assumption) | assumption) | (have e_ := (Kd.N_reads' HO_385003.out).1; omega)); obtain ⟨ua392_3, uc392_3, rfl, ul392_3, ge392_3⟩ := k25_openF hMe392; have hv392_3 := hcc392 3 _ rfl; rw [add_field _ _ 3 (by omega)] at hv392_3; replace hv392_3 := Option.some.inj (hv392_3.symm.trans hx392_3); injection hv392_3 with hva_ hvn_ hvc_; rw [hva_] at ge392_3; rw [hvc_] at ul392_3; have HL392_3 := yJ (show Kd.V k25 25 _ w.heap.size _ _ ((rd_T25 t381 1).f3) from Kd.V_mk ul392_3 ge392_3); clear hva_ hvn_ hvc_ ge392_3 ul392_3; clear hcc392 hce392; (try simp only [show (1 : Int).toNat = 1 from rfl, Nat.reduceMul, Nat.reduceEqDiff, Go.Addr.add, ↓reduceIte] at hx392_0); (try simp only [show (1 : Int).toNat = 1 from rfl, Nat.reduceMul, Nat.reduceEqDiff, Go.Addr.add, ↓reduceIte] at hx392_1); (try simp only [show (1 : Int).toNat = 1 from rfl, Nat.reduceMul, Nat.reduceEqDiff, Go.Addr.add, ↓reduceIte] at hx392_2); (try simp only [show (1 : Int).toNat = 1 from rfl, Nat.reduceMul, Nat.reduceEqDiff, Go.Addr.add, ↓reduceIte] at hx392_3); have qi392 : (1 < t381.length) = True := eq_true (by omega); (try rw [show ((1 : Int)).toNat = 1 from rfl] at hx392_0); (try rw [show 1 * 4 = 4 from rfl] at hx392_0); (try rw [show ((1 : Int)).toNat = 1 from rfl] at hx392_1); (try rw [show 1 * 4 = 4 from rfl] at hx392_1); (try rw [show ((1 : Int)).toNat = 1 from rfl] at hx392_2); (try rw [show 1 * 4 = 4 from rfl] at hx392_2); (try rw [show ((1 : Int)).toNat = 1 from rfl] at hx392_3); (try rw [show 1 * 4 = 4 from rfl] at hx392_3); have HR392_3 := yJ hi392_3; have HC392_3 := yJ hl392_3; clear hi392_3 hl392_3; replace p392 := eq_true p392; replace q392 := eq_true q392) | (go_at_call 21; (with_reducible refine (term_IsKind.calls kj45 ((rd_T25 t381 1).f0) ((rd_T25 t381 1).f1) ((rd_T25 t381 1).f2) _ _ ((rd_T25 t381 1).f3) t393 _ ?side1 ?side2 A57.out).mono ?_); (case side1 => repeat (first | exact (by repeat (first | (with_reducible exact HR392_3.out) | (with_reducible refine Kd.C_alloc ?_ _) | (with_reducible refine Kd.C_drewN ?_ _) | (with_reducible refine Kd.C_drew ?_) | exact HR392_3.out)) | (with_reducible refine Kd.C_alloc ?_ _) | (with_reducible refine Kd.C_drewN ?_ _) | (with_reducible refine Kd.C_drew ?_))); (case side2 => exact HC392_3.out); rintro e w78 ⟨rfl, hb⟩; have n0_ := yJ (Kd.N_below (by (with_reducible repeat (first | apply Kd.N_alloc | apply Kd.N_drewN | apply Kd.N_drew)); exact HO_385003.out) hb); have n1_ := yJ (Kd.V_below (by (with_reducible repeat (first | apply Kd.V_alloc | apply Kd.V_drewN | apply Kd.V_drew)); exact HL390_3.out) hb); have n2_ := yJ (Kd.V_below (by (with_reducible repeat (first | apply Kd.V_alloc | apply Kd.V_drewN | apply Kd.V_drew)); exact HL392_3.out) hb); have n3_ := yJ (blk_below (g := gb384) (o := .cells #[.int .i64 t378, .string t379, .int .i64 t380, .slice (some ad390) t381.length co11] 25 (0, 0)) (by (with_reducible repeat (first | refine yA ?_ _ | refine yB ?_ | refine yC ?_ _)); exact BK384.out) hb); have n4_ := yJ (Kd.C_below (by repeat (first | (with_reducible exact HR390_3.out) | (with_reducible refine Kd.C_alloc ?_ _) | (with_reducible refine Kd.C_drewN ?_ _) | (with_reducible refine Kd.C_drew ?_) | exact HR390_3.out)) hb); have n5_ := yJ (Kd.C_below (by repeat (first | (with_reducible exact HR392_3.out) | (with_reducible refine Kd.C_alloc ?_ _) | (with_reducible refine Kd.C_drewN ?_ _) | (with_reducible refine Kd.C_drew ?_) | exact HR392_3.out)) hb); have n6_ := yJ (below_step (by repeat (first | (with_reducible first | exact HB.out | apply yF | apply yG | apply yH | refine yI ?_ GE384.out) | exact HB.out)) hb); clear HO_385003; clear HL390_3; clear HL392_3; clear BK384; clear HR390_3; clear HR392_3; clear HB; have HO_385003 := n0_; have HL390_3 := n1_; have HL392_3 := n2_; have BK384 := n3_; have HR390_3 := n4_; have HR392_3 := n5_; have HB := n6_; clear n0_ n1_ n2_ n3_ n4_ n5_ n6_; (try clear hb); (try clear hb2); (try clear hk); (try clear hi)))
            go_ret
            exact ⟨by first | rfl | (simp [errW_none, errW_some] <;> rfl) | (simp [*, errW_none, errW_some] <;> rfl), by repeat (first | (with_reducible first | exact HB.out | apply yF | apply yG | apply yH | refine yI ?_ GE384.out) | exact HB.out)⟩
          ·rw [if_neg c56] at H
           exact absurd H (by simp)
         ·replace c55 := Bool.eq_false_iff.mpr c55
          subst c55
          have H1 : (some false) = some r := by rw [if_neg (show ¬ (false = true) by decide)] at H; exact H
          clear H;have H := H1;clear H1
          obtain rfl := Option.some.inj H
          have hcz79_0 : wc.cell? ⟨gb384, 0, none⟩ = some (.int .i64 t378) := (yE BK384.out 0).trans rfl
          have hcz79_1 : wc.cell? ⟨gb384, 1, none⟩ = some (.string t379) := (yE BK384.out 1).trans rfl
          have hcz79_2 : wc.cell? ⟨gb384, 2, none⟩ = some (.int .i64 t380) := (yE BK384.out 2).trans rfl
          have hcz79_3 : wc.cell? ⟨gb384, 3, none⟩ = some (.slice Ao11 t381.length co11) := (yE BK384.out 3).trans rfl
          have hfz79_0 := yD BK384.out 0
          have hfz79_1 := yD BK384.out 1
          have hfz79_2 := yD BK384.out 2
          have hfz79_3 := yD BK384.out 3
          have p390 : 0 ≤ (0 : Int) := (by omega)
          have q390 : 0 < (t381.length : Int) := of_decide_eq_true (by first | (with_reducible assumption) | assumption)
          obtain ⟨ad390, A390_3, c390_3, e390, hx390_0, hx390_1, hx390_2, hx390_3, hl390_3, hi390_3⟩ := at_T25 (Kd.N_reads' HO_385003.out).2.2 0 p390 q390
          cases e390
          obtain ⟨ce390, hce390, hMe390, hcc390⟩ := Kd.N_get HO_385003.out z25 0 p390 (by first | exact q390 | exact of_decide_eq_true (by first | (with_reducible assumption) | assumption) | (have e_ := (Kd.N_reads' HO_385003.out).1; omega))
          obtain ⟨ua390_3, uc390_3, rfl, ul390_3, ge390_3⟩ := k25_openF hMe390
          have hv390_3 := hcc390 3 _ rfl
          rw [add_field _ _ 3 (by omega)] at hv390_3
          replace hv390_3 := Option.some.inj (hv390_3.symm.trans hx390_3)
          injection hv390_3 with hva_ hvn_ hvc_
          rw [hva_] at ge390_3
          rw [hvc_] at ul390_3
          have HL390_3 := yJ (show Kd.V k25 25 _ w.heap.size _ _ ((rd_T25 t381 0).f3) from Kd.V_mk ul390_3 ge390_3)
          clear hva_ hvn_ hvc_ ge390_3 ul390_3 hcc390 hce390
          have qi390 : (0 < t381.length) = True := eq_true (by omega)
          (try rw [show ((0 : Int)).toNat = 0 from rfl] at hx390_0)
          (try rw [show 0 * 4 = 0 from rfl] at hx390_0)
          (try rw [Addr.add_zero'] at hx390_0)
          (try rw [show ((0 : Int)).toNat = 0 from rfl] at hx390_1)
          (try rw [show 0 * 4 = 0 from rfl] at hx390_1)
          (try rw [Addr.add_zero'] at hx390_1)
          (try rw [show ((0 : Int)).toNat = 0 from rfl] at hx390_2)
          (try rw [show 0 * 4 = 0 from rfl] at hx390_2)
          (try rw [Addr.add_zero'] at hx390_2)
          (try rw [show ((0 : Int)).toNat = 0 from rfl] at hx390_3)
          (try rw [show 0 * 4 = 0 from rfl] at hx390_3)
          (try rw [Addr.add_zero'] at hx390_3)
          have HR390_3 := yJ hi390_3;have HC390_3 := yJ hl390_3;clear hi390_3 hl390_3;replace p390 := eq_true p390;replace q390 := eq_true q390
          go_wp2_with (first | ((with_reducible refine gate_callee (f := 23) rfl ?_); refine goesL_ (some 69) rfl rfl Tryd.func23 (by kernel_rfl) rfl #[.agg #[.int .i64 ((rd_T25 t381 0).f0), .string ((rd_T25 t381 0).f1), .int .i64 ((rd_T25 t381 0).f2), .slice A390_3 ((rd_T25 t381 0).f3).length c390_3]] rfl (by (try simp only [List.map_toArray, List.map_cons, List.map_nil]); first | done | rfl | (simp only [List.length_drop, List.length_take]; rfl)) ?_; (with_reducible refine (term_IsType.calls kj45 ((rd_T25 t381 0).f0) ((rd_T25 t381 0).f1) ((rd_T25 t381 0).f2) _ _ ((rd_T25 t381 0).f3) false _ ?side1 ?side2 A54.out).mono ?_); (case side1 => repeat (first | exact (by repeat (first | (with_reducible exact HR390_3.out) | (with_reducible refine Kd.C_alloc ?_ _) | (with_reducible refine Kd.C_drewN ?_ _) | (with_reducible refine Kd.C_drew ?_) | exact HR390_3.out)) | (with_reducible refine Kd.C_alloc ?_ _) | (with_reducible refine Kd.C_drewN ?_ _) | (with_reducible refine Kd.C_drew ?_))); (case side2 => exact HC390_3.out); rintro e w80 ⟨rfl, hb⟩; refine ⟨_, rfl, ?_⟩; have n0_ := yJ (Kd.N_below (by (with_reducible repeat (first | apply Kd.N_alloc | apply Kd.N_drewN | apply Kd.N_drew)); exact HO_385003.out) hb); have n1_ := yJ (Kd.V_below (by (with_reducible repeat (first | apply Kd.V_alloc | apply Kd.V_drewN | apply Kd.V_drew)); exact HL390_3.out) hb); have n2_ := yJ (blk_below (g := gb384) (o := .cells #[.int .i64 t378, .string t379, .int .i64 t380, .slice (some ad390) t381.length co11] 25 (0, 0)) (by (with_reducible repeat (first | refine yA ?_ _ | refine yB ?_ | refine yC ?_ _)); exact BK384.out) hb); have n3_ := yJ (Kd.C_below (by repeat (first | (with_reducible exact HR390_3.out) | (with_reducible refine Kd.C_alloc ?_ _) | (with_reducible refine Kd.C_drewN ?_ _) | (with_reducible refine Kd.C_drew ?_) | exact HR390_3.out)) hb); have n4_ := yJ (below_step (by repeat (first | (with_reducible first | exact HB.out | apply yF | apply yG | apply yH | refine yI ?_ GE384.out) | exact HB.out)) hb); clear HO_385003; clear HL390_3; clear BK384; clear HR390_3; clear HB; have HO_385003 := n0_; have HL390_3 := n1_; have BK384 := n2_; have HR390_3 := n3_; have HB := n4_; clear n0_ n1_ n2_ n3_ n4_; (try clear hb); (try clear hb2); (try clear hk); (try clear hi)))
          go_ret
          exact ⟨by first | rfl | (simp [errW_none, errW_some] <;> rfl) | (simp [*, errW_none, errW_some] <;> rfl), by repeat (first | (with_reducible first | exact HB.out | apply yF | apply yG | apply yH | refine yI ?_ GE384.out) | exact HB.out)⟩
        ·rw [if_neg c53] at H
         exact absurd H (by simp)
       ·rw [if_neg c52] at H
        have c52b0 : (t378 == 2) = false := beq_eq_false_iff_ne.mpr c52
        have c52b1 : (t378 != 2) = true := bne_iff_ne.mpr c52
        by_cases c81 : t378 = 3
        ·rw [if_pos c81] at H
         have c81b0 : (t378 == 3) = true := beq_iff_eq.mpr c81
         have c81b1 : (t378 != 3) = false := bne_eq_false_iff_eq.mpr c81
         clear c81
         by_cases c82 : 0 < (t381.length : Int)
         ·rw [if_pos c82] at H
          have c82b0 : decide (0 < (t381.length : Int)) = true := decide_eq_true c82
          have c82b1 : decide (0 < t381.length) = true := decide_eq_true (by omega)
          clear c82;replace H := yK H;obtain ⟨t398, A830, H⟩ := H
          replace H : (if t398 = true then (if t387 = true then ((f5_awake.f).bind fun t399 => (some t399)) else (some false)) else (some false)) = some r := H
          have A83 := yJ A830;clear A830
          by_cases c84 : t398 = true
          ·subst c84
           have H1 : (if t387 = true then ((f5_awake.f).bind fun t399 => (some t399)) else (some false)) = some r := by rw [if_pos rfl] at H; exact H
           clear H;have H := H1;clear H1
           by_cases c85 : t387 = true
           ·subst c85
            have H1 : ((f5_awake.f).bind fun t399 => (some t399)) = some r := by rw [if_pos rfl] at H; exact H
            clear H;have H := H1;clear H1;replace H := yK H;obtain ⟨t399, A860, H⟩ := H
            replace H : (some t399) = some r := H
            have A86 := yJ A860;clear A860
            obtain rfl := Option.some.inj H
            have hcz87_0 : wc.cell? ⟨gb384, 0, none⟩ = some (.int .i64 t378) := (yE BK384.out 0).trans rfl
            have hcz87_1 : wc.cell? ⟨gb384, 1, none⟩ = some (.string t379) := (yE BK384.out 1).trans rfl
            have hcz87_2 : wc.cell? ⟨gb384, 2, none⟩ = some (.int .i64 t380) := (yE BK384.out 2).trans rfl
            have hcz87_3 : wc.cell? ⟨gb384, 3, none⟩ = some (.slice Ao11 t381.length co11) := (yE BK384.out 3).trans rfl
            have hfz87_0 := yD BK384.out 0
            have hfz87_1 := yD BK384.out 1
            have hfz87_2 := yD BK384.out 2
            have hfz87_3 := yD BK384.out 3
            have p397 : 0 ≤ (0 : Int) := (by omega)
            have q397 : 0 < (t381.length : Int) := of_decide_eq_true (by first | (with_reducible assumption) | assumption)
            obtain ⟨ad397, A397_3, c397_3, e397, hx397_0, hx397_1, hx397_2, hx397_3, hl397_3, hi397_3⟩ := at_T25 (Kd.N_reads' HO_385003.out).2.2 0 p397 q397
            cases e397
            obtain ⟨ce397, hce397, hMe397, hcc397⟩ := Kd.N_get HO_385003.out z25 0 p397 (by first | exact q397 | exact of_decide_eq_true (by first | (with_reducible assumption) | assumption) | (have e_ := (Kd.N_reads' HO_385003.out).1; omega))
            obtain ⟨ua397_3, uc397_3, rfl, ul397_3, ge397_3⟩ := k25_openF hMe397
            have hv397_3 := hcc397 3 _ rfl
            rw [add_field _ _ 3 (by omega)] at hv397_3
            replace hv397_3 := Option.some.inj (hv397_3.symm.trans hx397_3)
            injection hv397_3 with hva_ hvn_ hvc_
            rw [hva_] at ge397_3
            rw [hvc_] at ul397_3
            have HL397_3 := yJ (show Kd.V k25 25 _ w.heap.size _ _ ((rd_T25 t381 0).f3) from Kd.V_mk ul397_3 ge397_3)
            clear hva_ hvn_ hvc_ ge397_3 ul397_3 hcc397 hce397
            have qi397 : (0 < t381.length) = True := eq_true (by omega)
            (try rw [show ((0 : Int)).toNat = 0 from rfl] at hx397_0)
            (try rw [show 0 * 4 = 0 from rfl] at hx397_0)
            (try rw [Addr.add_zero'] at hx397_0)
            (try rw [show ((0 : Int)).toNat = 0 from rfl] at hx397_1)
            (try rw [show 0 * 4 = 0 from rfl] at hx397_1)
            (try rw [Addr.add_zero'] at hx397_1)
            (try rw [show ((0 : Int)).toNat = 0 from rfl] at hx397_2)
            (try rw [show 0 * 4 = 0 from rfl] at hx397_2)
            (try rw [Addr.add_zero'] at hx397_2)
            (try rw [show ((0 : Int)).toNat = 0 from rfl] at hx397_3)
            (try rw [show 0 * 4 = 0 from rfl] at hx397_3)
            (try rw [Addr.add_zero'] at hx397_3)
            have HR397_3 := yJ hi397_3;have HC397_3 := yJ hl397_3;clear hi397_3 hl397_3;replace p397 := eq_true p397;replace q397 := eq_true q397
            go_wp2_with (first | ((with_reducible refine gate_callee (f := 25) rfl ?_); refine goesL_ (some 97) rfl rfl Tryd.func25 (by kernel_rfl) rfl #[.agg #[.int .i64 ((rd_T25 t381 0).f0), .string ((rd_T25 t381 0).f1), .int .i64 ((rd_T25 t381 0).f2), .slice A397_3 ((rd_T25 t381 0).f3).length c397_3]] rfl (by (try simp only [List.map_toArray, List.map_cons, List.map_nil]); first | done | rfl | (simp only [List.length_drop, List.length_take]; rfl)) ?_; (with_reducible refine (term_IsObject.calls kj45 ((rd_T25 t381 0).f0) ((rd_T25 t381 0).f1) ((rd_T25 t381 0).f2) _ _ ((rd_T25 t381 0).f3) true _ ?side1 ?side2 A83.out).mono ?_); (case side1 => repeat (first | exact (by repeat (first | (with_reducible exact HR397_3.out) | (with_reducible refine Kd.C_alloc ?_ _) | (with_reducible refine Kd.C_drewN ?_ _) | (with_reducible refine Kd.C_drew ?_) | exact HR397_3.out)) | (with_reducible refine Kd.C_alloc ?_ _) | (with_reducible refine Kd.C_drewN ?_ _) | (with_reducible refine Kd.C_drew ?_))); (case side2 => exact HC397_3.out); rintro e w88 ⟨rfl, hb⟩; refine ⟨_, rfl, ?_⟩; have n0_ := yJ (Kd.N_below (by (with_reducible repeat (first | apply Kd.N_alloc | apply Kd.N_drewN | apply Kd.N_drew)); exact HO_385003.out) hb); have n1_ := yJ (Kd.V_below (by (with_reducible repeat (first | apply Kd.V_alloc | apply Kd.V_drewN | apply Kd.V_drew)); exact HL397_3.out) hb); have n2_ := yJ (blk_below (g := gb384) (o := .cells #[.int .i64 t378, .string t379, .int .i64 t380, .slice (some ad397) t381.length co11] 25 (0, 0)) (by (with_reducible repeat (first | refine yA ?_ _ | refine yB ?_ | refine yC ?_ _)); exact BK384.out) hb); have n3_ := yJ (Kd.C_below (by repeat (first | (with_reducible exact HR397_3.out) | (with_reducible refine Kd.C_alloc ?_ _) | (with_reducible refine Kd.C_drewN ?_ _) | (with_reducible refine Kd.C_drew ?_) | exact HR397_3.out)) hb); have n4_ := yJ (below_step (by repeat (first | (with_reducible first | exact HB.out | apply yF | apply yG | apply yH | refine yI ?_ GE384.out) | exact HB.out)) hb); clear HO_385003; clear HL397_3; clear BK384; clear HR397_3; clear HB; have HO_385003 := n0_; have HL397_3 := n1_; have BK384 := n2_; have HR397_3 := n3_; have HB := n4_; clear n0_ n1_ n2_ n3_ n4_; (try clear hb); (try clear hb2); (try clear hk); (try clear hi)) | (go_at_call 41; (with_reducible refine (f5_awake.calls  t399 _ A86.out).mono ?_); rintro e w89 ⟨rfl, hb⟩; have n0_ := yJ (Kd.N_below (by (with_reducible repeat (first | apply Kd.N_alloc | apply Kd.N_drewN | apply Kd.N_drew)); exact HO_385003.out) hb); have n1_ := yJ (Kd.V_below (by (with_reducible repeat (first | apply Kd.V_alloc | apply Kd.V_drewN | apply Kd.V_drew)); exact HL397_3.out) hb); have n2_ := yJ (blk_below (g := gb384) (o := .cells #[.int .i64 t378, .string t379, .int .i64 t380, .slice (some ad397) t381.length co11] 25 (0, 0)) (by (with_reducible repeat (first | refine yA ?_ _ | refine yB ?_ | refine yC ?_ _)); exact BK384.out) hb); have n3_ := yJ (Kd.C_below (by repeat (first | (with_reducible exact HR397_3.out) | (with_reducible refine Kd.C_alloc ?_ _) | (with_reducible refine Kd.C_drewN ?_ _) | (with_reducible refine Kd.C_drew ?_) | exact HR397_3.out)) hb); have n4_ := yJ (below_step (by repeat (first | (with_reducible first | exact HB.out | apply yF | apply yG | apply yH | refine yI ?_ GE384.out) | exact HB.out)) hb); clear HO_385003; clear HL397_3; clear BK384; clear HR397_3; clear HB; have HO_385003 := n0_; have HL397_3 := n1_; have BK384 := n2_; have HR397_3 := n3_; have HB := n4_; clear n0_ n1_ n2_ n3_ n4_; (try clear hb); (try clear hb2); (try clear hk); (try clear hi)))
            go_ret
            exact ⟨by first | rfl | (simp [errW_none, errW_some] <;> rfl) | (simp [*, errW_none, errW_some] <;> rfl), by repeat (first | (with_reducible first | exact HB.out | apply yF | apply yG | apply yH | refine yI ?_ GE384.out) | exact HB.out)⟩
           ·replace c85 := Bool.eq_false_iff.mpr c85
            subst c85
            have H1 : (some false) = some r := by rw [if_neg (show ¬ (false = true) by decide)] at H; exact H
            clear H;have H := H1;clear H1
            obtain rfl := Option.some.inj H
            have hcz90_0 : wc.cell? ⟨gb384, 0, none⟩ = some (.int .i64 t378) := (yE BK384.out 0).trans rfl
            have hcz90_1 : wc.cell? ⟨gb384, 1, none⟩ = some (.string t379) := (yE BK384.out 1).trans rfl
            have hcz90_2 : wc.cell? ⟨gb384, 2, none⟩ = some (.int .i64 t380) := (yE BK384.out 2).trans rfl
            have hcz90_3 : wc.cell? ⟨gb384, 3, none⟩ = some (.slice Ao11 t381.length co11) := (yE BK384.out 3).trans rfl
            have hfz90_0 := yD BK384.out 0
            have hfz90_1 := yD BK384.out 1
            have hfz90_2 := yD BK384.out 2
            have hfz90_3 := yD BK384.out 3
            have p397 : 0 ≤ (0 : Int) := (by omega)
            have q397 : 0 < (t381.length : Int) := of_decide_eq_true (by first | (with_reducible assumption) | assumption)
            obtain ⟨ad397, A397_3, c397_3, e397, hx397_0, hx397_1, hx397_2, hx397_3, hl397_3, hi397_3⟩ := at_T25 (Kd.N_reads' HO_385003.out).2.2 0 p397 q397
            cases e397
            obtain ⟨ce397, hce397, hMe397, hcc397⟩ := Kd.N_get HO_385003.out z25 0 p397 (by first | exact q397 | exact of_decide_eq_true (by first | (with_reducible assumption) | assumption) | (have e_ := (Kd.N_reads' HO_385003.out).1; omega))
            obtain ⟨ua397_3, uc397_3, rfl, ul397_3, ge397_3⟩ := k25_openF hMe397
            have hv397_3 := hcc397 3 _ rfl
            rw [add_field _ _ 3 (by omega)] at hv397_3
            replace hv397_3 := Option.some.inj (hv397_3.symm.trans hx397_3)
            injection hv397_3 with hva_ hvn_ hvc_
            rw [hva_] at ge397_3
            rw [hvc_] at ul397_3
            have HL397_3 := yJ (show Kd.V k25 25 _ w.heap.size _ _ ((rd_T25 t381 0).f3) from Kd.V_mk ul397_3 ge397_3)
            clear hva_ hvn_ hvc_ ge397_3 ul397_3 hcc397 hce397
            have qi397 : (0 < t381.length) = True := eq_true (by omega)
            (try rw [show ((0 : Int)).toNat = 0 from rfl] at hx397_0)
            (try rw [show 0 * 4 = 0 from rfl] at hx397_0)
            (try rw [Addr.add_zero'] at hx397_0)
            (try rw [show ((0 : Int)).toNat = 0 from rfl] at hx397_1)
            (try rw [show 0 * 4 = 0 from rfl] at hx397_1)
            (try rw [Addr.add_zero'] at hx397_1)
            (try rw [show ((0 : Int)).toNat = 0 from rfl] at hx397_2)
            (try rw [show 0 * 4 = 0 from rfl] at hx397_2)
            (try rw [Addr.add_zero'] at hx397_2)
            (try rw [show ((0 : Int)).toNat = 0 from rfl] at hx397_3)
            (try rw [show 0 * 4 = 0 from rfl] at hx397_3)
            (try rw [Addr.add_zero'] at hx397_3)
            have HR397_3 := yJ hi397_3;have HC397_3 := yJ hl397_3;clear hi397_3 hl397_3;replace p397 := eq_true p397;replace q397 := eq_true q397
            go_wp2_with (first | ((with_reducible refine gate_callee (f := 25) rfl ?_); refine goesL_ (some 97) rfl rfl Tryd.func25 (by kernel_rfl) rfl #[.agg #[.int .i64 ((rd_T25 t381 0).f0), .string ((rd_T25 t381 0).f1), .int .i64 ((rd_T25 t381 0).f2), .slice A397_3 ((rd_T25 t381 0).f3).length c397_3]] rfl (by (try simp only [List.map_toArray, List.map_cons, List.map_nil]); first | done | rfl | (simp only [List.length_drop, List.length_take]; rfl)) ?_; (with_reducible refine (term_IsObject.calls kj45 ((rd_T25 t381 0).f0) ((rd_T25 t381 0).f1) ((rd_T25 t381 0).f2) _ _ ((rd_T25 t381 0).f3) true _ ?side1 ?side2 A83.out).mono ?_); (case side1 => repeat (first | exact (by repeat (first | (with_reducible exact HR397_3.out) | (with_reducible refine Kd.C_alloc ?_ _) | (with_reducible refine Kd.C_drewN ?_ _) | (with_reducible refine Kd.C_drew ?_) | exact HR397_3.out)) | (with_reducible refine Kd.C_alloc ?_ _) | (with_reducible refine Kd.C_drewN ?_ _) | (with_reducible refine Kd.C_drew ?_))); (case side2 => exact HC397_3.out); rintro e w91 ⟨rfl, hb⟩; refine ⟨_, rfl, ?_⟩; have n0_ := yJ (Kd.N_below (by (with_reducible repeat (first | apply Kd.N_alloc | apply Kd.N_drewN | apply Kd.N_drew)); exact HO_385003.out) hb); have n1_ := yJ (Kd.V_below (by (with_reducible repeat (first | apply Kd.V_alloc | apply Kd.V_drewN | apply Kd.V_drew)); exact HL397_3.out) hb); have n2_ := yJ (blk_below (g := gb384) (o := .cells #[.int .i64 t378, .string t379, .int .i64 t380, .slice (some ad397) t381.length co11] 25 (0, 0)) (by (with_reducible repeat (first | refine yA ?_ _ | refine yB ?_ | refine yC ?_ _)); exact BK384.out) hb); have n3_ := yJ (Kd.C_below (by repeat (first | (with_reducible exact HR397_3.out) | (with_reducible refine Kd.C_alloc ?_ _) | (with_reducible refine Kd.C_drewN ?_ _) | (with_reducible refine Kd.C_drew ?_) | exact HR397_3.out)) hb); have n4_ := yJ (below_step (by repeat (first | (with_reducible first | exact HB.out | apply yF | apply yG | apply yH | refine yI ?_ GE384.out) | exact HB.out)) hb); clear HO_385003; clear HL397_3; clear BK384; clear HR397_3; clear HB; have HO_385003 := n0_; have HL397_3 := n1_; have BK384 := n2_; have HR397_3 := n3_; have HB := n4_; clear n0_ n1_ n2_ n3_ n4_; (try clear hb); (try clear hb2); (try clear hk); (try clear hi)))
            go_ret
            exact ⟨by first | rfl | (simp [errW_none, errW_some] <;> rfl) | (simp [*, errW_none, errW_some] <;> rfl), by repeat (first | (with_reducible first | exact HB.out | apply yF | apply yG | apply yH | refine yI ?_ GE384.out) | exact HB.out)⟩
          ·replace c84 := Bool.eq_false_iff.mpr c84
           subst c84
           have H1 : (some false) = some r := by rw [if_neg (show ¬ (false = true) by decide)] at H; exact H
           clear H;have H := H1;clear H1
           obtain rfl := Option.some.inj H
           have hcz92_0 : wc.cell? ⟨gb384, 0, none⟩ = some (.int .i64 t378) := (yE BK384.out 0).trans rfl
           have hcz92_1 : wc.cell? ⟨gb384, 1, none⟩ = some (.string t379) := (yE BK384.out 1).trans rfl
           have hcz92_2 : wc.cell? ⟨gb384, 2, none⟩ = some (.int .i64 t380) := (yE BK384.out 2).trans rfl
           have hcz92_3 : wc.cell? ⟨gb384, 3, none⟩ = some (.slice Ao11 t381.length co11) := (yE BK384.out 3).trans rfl
           have hfz92_0 := yD BK384.out 0
           have hfz92_1 := yD BK384.out 1
           have hfz92_2 := yD BK384.out 2
           have hfz92_3 := yD BK384.out 3
           have p397 : 0 ≤ (0 : Int) := (by omega)
           have q397 : 0 < (t381.length : Int) := of_decide_eq_true (by first | (with_reducible assumption) | assumption)
           obtain ⟨ad397, A397_3, c397_3, e397, hx397_0, hx397_1, hx397_2, hx397_3, hl397_3, hi397_3⟩ := at_T25 (Kd.N_reads' HO_385003.out).2.2 0 p397 q397
           cases e397
           obtain ⟨ce397, hce397, hMe397, hcc397⟩ := Kd.N_get HO_385003.out z25 0 p397 (by first | exact q397 | exact of_decide_eq_true (by first | (with_reducible assumption) | assumption) | (have e_ := (Kd.N_reads' HO_385003.out).1; omega))
           obtain ⟨ua397_3, uc397_3, rfl, ul397_3, ge397_3⟩ := k25_openF hMe397
           have hv397_3 := hcc397 3 _ rfl
           rw [add_field _ _ 3 (by omega)] at hv397_3
           replace hv397_3 := Option.some.inj (hv397_3.symm.trans hx397_3)
           injection hv397_3 with hva_ hvn_ hvc_
           rw [hva_] at ge397_3
           rw [hvc_] at ul397_3
           have HL397_3 := yJ (show Kd.V k25 25 _ w.heap.size _ _ ((rd_T25 t381 0).f3) from Kd.V_mk ul397_3 ge397_3)
           clear hva_ hvn_ hvc_ ge397_3 ul397_3 hcc397 hce397
           have qi397 : (0 < t381.length) = True := eq_true (by omega)
           (try rw [show ((0 : Int)).toNat = 0 from rfl] at hx397_0)
           (try rw [show 0 * 4 = 0 from rfl] at hx397_0)
           (try rw [Addr.add_zero'] at hx397_0)
           (try rw [show ((0 : Int)).toNat = 0 from rfl] at hx397_1)
           (try rw [show 0 * 4 = 0 from rfl] at hx397_1)
           (try rw [Addr.add_zero'] at hx397_1)
           (try rw [show ((0 : Int)).toNat = 0 from rfl] at hx397_2)
           (try rw [show 0 * 4 = 0 from rfl] at hx397_2)
           (try rw [Addr.add_zero'] at hx397_2)
           (try rw [show ((0 : Int)).toNat = 0 from rfl] at hx397_3)
           (try rw [show 0 * 4 = 0 from rfl] at hx397_3)
           (try rw [Addr.add_zero'] at hx397_3)
           have HR397_3 := yJ hi397_3;have HC397_3 := yJ hl397_3;clear hi397_3 hl397_3;replace p397 := eq_true p397;replace q397 := eq_true q397
           go_wp2_with (first | ((with_reducible refine gate_callee (f := 25) rfl ?_); refine goesL_ (some 97) rfl rfl Tryd.func25 (by kernel_rfl) rfl #[.agg #[.int .i64 ((rd_T25 t381 0).f0), .string ((rd_T25 t381 0).f1), .int .i64 ((rd_T25 t381 0).f2), .slice A397_3 ((rd_T25 t381 0).f3).length c397_3]] rfl (by (try simp only [List.map_toArray, List.map_cons, List.map_nil]); first | done | rfl | (simp only [List.length_drop, List.length_take]; rfl)) ?_; (with_reducible refine (term_IsObject.calls kj45 ((rd_T25 t381 0).f0) ((rd_T25 t381 0).f1) ((rd_T25 t381 0).f2) _ _ ((rd_T25 t381 0).f3) false _ ?side1 ?side2 A83.out).mono ?_); (case side1 => repeat (first | exact (by repeat (first | (with_reducible exact HR397_3.out) | (with_reducible refine Kd.C_alloc ?_ _) | (with_reducible refine Kd.C_drewN ?_ _) | (with_reducible refine Kd.C_drew ?_) | exact HR397_3.out)) | (with_reducible refine Kd.C_alloc ?_ _) | (with_reducible refine Kd.C_drewN ?_ _) | (with_reducible refine Kd.C_drew ?_))); (case side2 => exact HC397_3.out); rintro e w93 ⟨rfl, hb⟩; refine ⟨_, rfl, ?_⟩; have n0_ := yJ (Kd.N_below (by (with_reducible repeat (first | apply Kd.N_alloc | apply Kd.N_drewN | apply Kd.N_drew)); exact HO_385003.out) hb); have n1_ := yJ (Kd.V_below (by (with_reducible repeat (first | apply Kd.V_alloc | apply Kd.V_drewN | apply Kd.V_drew)); exact HL397_3.out) hb); have n2_ := yJ (blk_below (g := gb384) (o := .cells #[.int .i64 t378, .string t379, .int .i64 t380, .slice (some ad397) t381.length co11] 25 (0, 0)) (by (with_reducible repeat (first | refine yA ?_ _ | refine yB ?_ | refine yC ?_ _)); exact BK384.out) hb); have n3_ := yJ (Kd.C_below (by repeat (first | (with_reducible exact HR397_3.out) | (with_reducible refine Kd.C_alloc ?_ _) | (with_reducible refine Kd.C_drewN ?_ _) | (with_reducible refine Kd.C_drew ?_) | exact HR397_3.out)) hb); have n4_ := yJ (below_step (by repeat (first | (with_reducible first | exact HB.out | apply yF | apply yG | apply yH | refine yI ?_ GE384.out) | exact HB.out)) hb); clear HO_385003; clear HL397_3; clear BK384; clear HR397_3; clear HB; have HO_385003 := n0_; have HL397_3 := n1_; have BK384 := n2_; have HR397_3 := n3_; have HB := n4_; clear n0_ n1_ n2_ n3_ n4_; (try clear hb); (try clear hb2); (try clear hk); (try clear hi)))
           go_ret
           exact ⟨by first | rfl | (simp [errW_none, errW_some] <;> rfl) | (simp [*, errW_none, errW_some] <;> rfl), by repeat (first | (with_reducible first | exact HB.out | apply yF | apply yG | apply yH | refine yI ?_ GE384.out) | exact HB.out)⟩
         ·rw [if_neg c82] at H
          exact absurd H (by simp)
        ·rw [if_neg c81] at H
         have c81b0 : (t378 == 3) = false := beq_eq_false_iff_ne.mpr c81
         have c81b1 : (t378 != 3) = true := bne_iff_ne.mpr c81
         have H' := yJ H
         clear H
         have hcz94_0 : wc.cell? ⟨gb384, 0, none⟩ = some (.int .i64 t378) := (yE BK384.out 0).trans rfl
         have hcz94_1 : wc.cell? ⟨gb384, 1, none⟩ = some (.string t379) := (yE BK384.out 1).trans rfl
         have hcz94_2 : wc.cell? ⟨gb384, 2, none⟩ = some (.int .i64 t380) := (yE BK384.out 2).trans rfl
         have hcz94_3 : wc.cell? ⟨gb384, 3, none⟩ = some (.slice Ao11 t381.length co11) := (yE BK384.out 3).trans rfl
         have hfz94_0 := yD BK384.out 0
         have hfz94_1 := yD BK384.out 1
         have hfz94_2 := yD BK384.out 2
         have hfz94_3 := yD BK384.out 3
         go_wp2
         go_loopg [9] kj45 (fun kq v9 w' => ∃ (x9_3 : Int), v9 = .int .i64 x9_3 ∧ Aside0 (f5_TermSorts.l0 kq x9_3 t378 t379 t380 t381 = some r) ∧ Aside0 (kq ≤ kj45) ∧ Aside0 (Kd.N k25 25 w' w.heap.size (fun k_ => k_ ≠ gb384) (.slice Ao11 t381.length co11) t381) ∧ Aside0 (w'.heap[gb384]? = some (.cells #[.int .i64 t378, .string t379, .int .i64 t380, (.slice Ao11 t381.length co11)] 25 (0, 0))) ∧ Aside0 (Below w.heap.size w w'))
         case atStart => exact ⟨(0), (by first | rfl | (simp; done) | (simp [*]; done)), H', ⟨Nat.le_refl _⟩, ⟨by (with_reducible repeat (first | apply Kd.N_alloc | apply Kd.N_drewN | apply Kd.N_drew)); exact HO_385003.out⟩, ⟨by (with_reducible repeat (first | refine yA ?_ _ | refine yB ?_ | refine yC ?_ _)); exact BK384.out⟩, ⟨by repeat (first | (with_reducible first | exact HB.out | apply yF | apply yG | apply yH | refine yI ?_ GE384.out) | exact HB.out)⟩⟩
         case round =>
          clear H'
          try clear c1
          try clear c2
          try clear p2
          try clear c3
          try clear p3
          try clear q3
          try clear hx3
          try clear qi3
          try clear c4
          try clear c5
          try clear c6
          try clear c8
          try clear c17
          try clear c18
          try clear c19
          try clear c19b0
          try clear c19b1
          try clear c19b2
          try clear c21
          try clear c22
          try clear c23
          try clear c25
          try clear c30
          try clear c31
          try clear c31b0
          try clear c31b1
          try clear c31b2
          try clear c34
          try clear c39
          try clear p39
          try clear q39
          try clear hx39
          try clear qi39
          try clear c40
          try clear c40b0
          try clear c40b1
          try clear c40b2
          try clear c41
          try clear c45
          try clear c47
          try clear c48
          try clear c49
          try clear c52
          try clear c52b0
          try clear c52b1
          try clear c53
          try clear c53b0
          try clear c53b1
          try clear c55
          try clear c56
          try clear c56b0
          try clear c56b1
          try clear c58
          try clear c58b0
          try clear c58b1
          try clear c58b2
          try clear c60
          try clear c60b0
          try clear c60b1
          try clear c60b2
          try clear c81
          try clear c81b0
          try clear c81b1
          try clear c82
          try clear c82b0
          try clear c82b1
          try clear c84
          try clear c85
          try clear hcz10_0
          try clear hcz10_1
          try clear hcz10_2
          try clear hcz10_3
          try clear hcz20_0
          try clear hcz20_1
          try clear hcz20_2
          try clear hcz20_3
          try clear hcz23_0
          try clear hcz23_1
          try clear hcz23_2
          try clear hcz23_3
          try clear hcz26_0
          try clear hcz26_1
          try clear hcz26_2
          try clear hcz26_3
          try clear hcz28_0
          try clear hcz28_1
          try clear hcz28_2
          try clear hcz28_3
          try clear hcz32_0
          try clear hcz32_1
          try clear hcz32_2
          try clear hcz32_3
          try clear hcz35_0
          try clear hcz35_1
          try clear hcz35_2
          try clear hcz35_3
          try clear hcz37_0
          try clear hcz37_1
          try clear hcz37_2
          try clear hcz37_3
          try clear hcz38_0
          try clear hcz38_1
          try clear hcz38_2
          try clear hcz38_3
          try clear hcz41_0
          try clear hcz41_1
          try clear hcz41_2
          try clear hcz41_3
          try clear hcz43_0
          try clear hcz43_1
          try clear hcz43_2
          try clear hcz43_3
          try clear hcz62_0
          try clear hcz62_1
          try clear hcz62_2
          try clear hcz62_3
          try clear hcz64_0
          try clear hcz64_1
          try clear hcz64_2
          try clear hcz64_3
          try clear hcz66_0
          try clear hcz66_1
          try clear hcz66_2
          try clear hcz66_3
          try clear hcz69_0
          try clear hcz69_1
          try clear hcz69_2
          try clear hcz69_3
          try clear hcz71_0
          try clear hcz71_1
          try clear hcz71_2
          try clear hcz71_3
          try clear hcz73_0
          try clear hcz73_1
          try clear hcz73_2
          try clear hcz73_3
          try clear hcz75_0
          try clear hcz75_1
          try clear hcz75_2
          try clear hcz75_3
          try clear hcz77_0
          try clear hcz77_1
          try clear hcz77_2
          try clear hcz77_3
          try clear hcz79_0
          try clear hcz79_1
          try clear hcz79_2
          try clear hcz79_3
          try clear hcz87_0
          try clear hcz87_1
          try clear hcz87_2
          try clear hcz87_3
          try clear hcz90_0
          try clear hcz90_1
          try clear hcz90_2
          try clear hcz90_3
          try clear hcz92_0
          try clear hcz92_1
          try clear hcz92_2
          try clear hcz92_3
          try clear hcz94_0
          try clear hcz94_1
          try clear hcz94_2
          try clear hcz94_3
          try clear hfz10_0
          try clear hfz10_1
          try clear hfz10_2
          try clear hfz10_3
          try clear hfz20_0
          try clear hfz20_1
          try clear hfz20_2
          try clear hfz20_3
          try clear hfz23_0
          try clear hfz23_1
          try clear hfz23_2
          try clear hfz23_3
          try clear hfz26_0
          try clear hfz26_1
          try clear hfz26_2
          try clear hfz26_3
          try clear hfz28_0
          try clear hfz28_1
          try clear hfz28_2
          try clear hfz28_3
          try clear hfz32_0
          try clear hfz32_1
          try clear hfz32_2
          try clear hfz32_3
          try clear hfz35_0
          try clear hfz35_1
          try clear hfz35_2
          try clear hfz35_3
          try clear hfz37_0
          try clear hfz37_1
          try clear hfz37_2
          try clear hfz37_3
          try clear hfz38_0
          try clear hfz38_1
          try clear hfz38_2
          try clear hfz38_3
          try clear hfz41_0
          try clear hfz41_1
          try clear hfz41_2
          try clear hfz41_3
          try clear hfz43_0
          try clear hfz43_1
          try clear hfz43_2
          try clear hfz43_3
          try clear hfz62_0
          try clear hfz62_1
          try clear hfz62_2
          try clear hfz62_3
          try clear hfz64_0
          try clear hfz64_1
          try clear hfz64_2
          try clear hfz64_3
          try clear hfz66_0
          try clear hfz66_1
          try clear hfz66_2
          try clear hfz66_3
          try clear hfz69_0
          try clear hfz69_1
          try clear hfz69_2
          try clear hfz69_3
          try clear hfz71_0
          try clear hfz71_1
          try clear hfz71_2
          try clear hfz71_3
          try clear hfz73_0
          try clear hfz73_1
          try clear hfz73_2
          try clear hfz73_3
          try clear hfz75_0
          try clear hfz75_1
          try clear hfz75_2
          try clear hfz75_3
          try clear hfz77_0
          try clear hfz77_1
          try clear hfz77_2
          try clear hfz77_3
          try clear hfz79_0
          try clear hfz79_1
          try clear hfz79_2
          try clear hfz79_3
          try clear hfz87_0
          try clear hfz87_1
          try clear hfz87_2
          try clear hfz87_3
          try clear hfz90_0
          try clear hfz90_1
          try clear hfz90_2
          try clear hfz90_3
          try clear hfz92_0
          try clear hfz92_1
          try clear hfz92_2
          try clear hfz92_3
          try clear hfz94_0
          try clear hfz94_1
          try clear hfz94_2
          try clear hfz94_3
          try clear hx390_0
          try clear hx390_1
          try clear hx390_2
          try clear hx390_3
          try clear hx392_0
          try clear hx392_1
          try clear hx392_2
          try clear hx392_3
          try clear hx394_0
          try clear hx394_1
          try clear hx394_2
          try clear hx394_3
          try clear hx397_0
          try clear hx397_1
          try clear hx397_2
          try clear hx397_3
          try clear p2
          try clear p390
          try clear p392
          try clear p394
          try clear p397
          try clear q390
          try clear q392
          try clear q394
          try clear q397
          obtain ⟨x9_3, rfl, HA, HK3, HO_385003, BK384, HB⟩ := hrel
          cases gk with
          | zero => exact absurd HA.out (by simp [f5_TermSorts.l0])
          | succ k3 =>
           have H := HA.out;clear HA
           simp only [f5_TermSorts.l0] at H
           by_cases c95 : x9_3 < (t381.length : Int)
           ·rw [if_pos c95] at H
            have c95b0 : decide (x9_3 < (t381.length : Int)) = true := decide_eq_true c95
            clear c95
            by_cases c96 : 0 ≤ x9_3
            ·rw [if_pos c96] at H
             have c96b0 : decide (0 ≤ x9_3) = true := decide_eq_true c96
             clear c96;replace H := yK H;obtain ⟨t401, A970, H⟩ := H
             replace H : (if t401 = true then (f5_TermSorts.l0 k3 (wrap64 (x9_3 + 1)) t378 t379 t380 t381) else (some false)) = some r := H
             have A97 := yJ A970;clear A970
             by_cases c98 : t401 = true
             ·subst c98
              have H1 : (f5_TermSorts.l0 k3 (wrap64 (x9_3 + 1)) t378 t379 t380 t381) = some r := by rw [if_pos rfl] at H; exact H
              clear H;have H := H1;clear H1
              have H' := yJ H
              clear H
              have hcz99_0 : wr.cell? ⟨gb384, 0, none⟩ = some (.int .i64 t378) := (yE BK384.out 0).trans rfl
              have hcz99_1 : wr.cell? ⟨gb384, 1, none⟩ = some (.string t379) := (yE BK384.out 1).trans rfl
              have hcz99_2 : wr.cell? ⟨gb384, 2, none⟩ = some (.int .i64 t380) := (yE BK384.out 2).trans rfl
              have hcz99_3 : wr.cell? ⟨gb384, 3, none⟩ = some (.slice Ao11 t381.length co11) := (yE BK384.out 3).trans rfl
              have hfz99_0 := yD BK384.out 0
              have hfz99_1 := yD BK384.out 1
              have hfz99_2 := yD BK384.out 2
              have hfz99_3 := yD BK384.out 3
              have p400 : 0 ≤ (x9_3 : Int) := of_decide_eq_true (by first | (with_reducible assumption) | assumption)
              have q400 : x9_3 < (t381.length : Int) := of_decide_eq_true (by first | (with_reducible assumption) | assumption)
              obtain ⟨ad400, A400_3, c400_3, e400, hx400_0, hx400_1, hx400_2, hx400_3, hl400_3, hi400_3⟩ := at_T25 (Kd.N_reads' HO_385003.out).2.2 x9_3 p400 q400
              cases e400
              obtain ⟨ce400, hce400, hMe400, hcc400⟩ := Kd.N_get HO_385003.out z25 x9_3 p400 (by first | exact q400 | exact of_decide_eq_true (by first | (with_reducible assumption) | assumption) | (have e_ := (Kd.N_reads' HO_385003.out).1; omega))
              obtain ⟨ua400_3, uc400_3, rfl, ul400_3, ge400_3⟩ := k25_openF hMe400
              have hv400_3 := hcc400 3 _ rfl
              rw [add_field _ _ 3 (by omega)] at hv400_3
              replace hv400_3 := Option.some.inj (hv400_3.symm.trans hx400_3)
              injection hv400_3 with hva_ hvn_ hvc_
              rw [hva_] at ge400_3
              rw [hvc_] at ul400_3
              have HL400_3 := yJ (show Kd.V k25 25 _ w.heap.size _ _ ((rd_T25 t381 x9_3).f3) from Kd.V_mk ul400_3 ge400_3)
              clear hva_ hvn_ hvc_ ge400_3 ul400_3 hcc400 hce400;have HR400_3 := yJ hi400_3;have HC400_3 := yJ hl400_3;clear hi400_3 hl400_3;replace p400 := eq_true p400;replace q400 := eq_true q400
              go_wp2_with (first | ((with_reducible refine gate_callee (f := 25) rfl ?_); refine goesL_ (some 116) rfl rfl Tryd.func25 (by kernel_rfl) rfl #[.agg #[.int .i64 ((rd_T25 t381 x9_3).f0), .string ((rd_T25 t381 x9_3).f1), .int .i64 ((rd_T25 t381 x9_3).f2), .slice A400_3 ((rd_T25 t381 x9_3).f3).length c400_3]] rfl (by (try simp only [List.map_toArray, List.map_cons, List.map_nil]); first | done | rfl | (simp only [List.length_drop, List.length_take]; rfl)) ?_; (with_reducible refine (term_IsObject.calls k3 ((rd_T25 t381 x9_3).f0) ((rd_T25 t381 x9_3).f1) ((rd_T25 t381 x9_3).f2) _ _ ((rd_T25 t381 x9_3).f3) true _ ?side1 ?side2 A97.out).mono ?_); (case side1 => repeat (first | exact (by repeat (first | (with_reducible exact HR400_3.out) | (with_reducible refine Kd.C_alloc ?_ _) | (with_reducible refine Kd.C_drewN ?_ _) | (with_reducible refine Kd.C_drew ?_) | exact HR400_3.out)) | (with_reducible refine Kd.C_alloc ?_ _) | (with_reducible refine Kd.C_drewN ?_ _) | (with_reducible refine Kd.C_drew ?_))); (case side2 => exact HC400_3.out); rintro e w100 ⟨rfl, hb⟩; refine ⟨_, rfl, ?_⟩; have n0_ := yJ (Kd.N_below (by (with_reducible repeat (first | apply Kd.N_alloc | apply Kd.N_drewN | apply Kd.N_drew)); exact HO_385003.out) hb); have n1_ := yJ (Kd.V_below (by (with_reducible repeat (first | apply Kd.V_alloc | apply Kd.V_drewN | apply Kd.V_drew)); exact HL400_3.out) hb); have n2_ := yJ (blk_below (g := gb384) (o := .cells #[.int .i64 t378, .string t379, .int .i64 t380, .slice (some ad400) t381.length co11] 25 (0, 0)) (by (with_reducible repeat (first | refine yA ?_ _ | refine yB ?_ | refine yC ?_ _)); exact BK384.out) hb); have n3_ := yJ (Kd.C_below (by repeat (first | (with_reducible exact HR400_3.out) | (with_reducible refine Kd.C_alloc ?_ _) | (with_reducible refine Kd.C_drewN ?_ _) | (with_reducible refine Kd.C_drew ?_) | exact HR400_3.out)) hb); have n4_ := yJ (below_step (by repeat (first | (with_reducible first | exact HB.out | apply yF | apply yG | apply yH | refine yI ?_ GE384.out) | exact HB.out)) hb); clear HO_385003; clear HL400_3; clear BK384; clear HR400_3; clear HB; have HO_385003 := n0_; have HL400_3 := n1_; have BK384 := n2_; have HR400_3 := n3_; have HB := n4_; clear n0_ n1_ n2_ n3_ n4_; (try clear hb); (try clear hb2); (try clear hk); (try clear hi)))
              go_roundg k3
              case measure => have := HJ6.out; have := HJ45.out; have := HK3.out; omega
              case rel => exact ⟨(wrap64 (x9_3 + 1)), (by first | rfl | (simp; done) | (simp [*]; done)), H', ⟨by have := HJ6.out; have := HJ45.out; have := HK3.out; omega⟩, ⟨by (with_reducible repeat (first | apply Kd.N_alloc | apply Kd.N_drewN | apply Kd.N_drew)); exact HO_385003.out⟩, ⟨by (with_reducible repeat (first | refine yA ?_ _ | refine yB ?_ | refine yC ?_ _)); exact BK384.out⟩, ⟨by repeat (first | (with_reducible first | exact HB.out | apply yF | apply yG | apply yH | refine yI ?_ GE384.out) | exact HB.out)⟩⟩
             ·replace c98 := Bool.eq_false_iff.mpr c98
              subst c98
              have H1 : (some false) = some r := by rw [if_neg (show ¬ (false = true) by decide)] at H; exact H
              clear H;have H := H1;clear H1
              obtain rfl := Option.some.inj H
              have hcz101_0 : wr.cell? ⟨gb384, 0, none⟩ = some (.int .i64 t378) := (yE BK384.out 0).trans rfl
              have hcz101_1 : wr.cell? ⟨gb384, 1, none⟩ = some (.string t379) := (yE BK384.out 1).trans rfl
              have hcz101_2 : wr.cell? ⟨gb384, 2, none⟩ = some (.int .i64 t380) := (yE BK384.out 2).trans rfl
              have hcz101_3 : wr.cell? ⟨gb384, 3, none⟩ = some (.slice Ao11 t381.length co11) := (yE BK384.out 3).trans rfl
              have hfz101_0 := yD BK384.out 0
              have hfz101_1 := yD BK384.out 1
              have hfz101_2 := yD BK384.out 2
              have hfz101_3 := yD BK384.out 3
              have p400 : 0 ≤ (x9_3 : Int) := of_decide_eq_true (by first | (with_reducible assumption) | assumption)
              have q400 : x9_3 < (t381.length : Int) := of_decide_eq_true (by first | (with_reducible assumption) | assumption)
              obtain ⟨ad400, A400_3, c400_3, e400, hx400_0, hx400_1, hx400_2, hx400_3, hl400_3, hi400_3⟩ := at_T25 (Kd.N_reads' HO_385003.out).2.2 x9_3 p400 q400
              cases e400
              obtain ⟨ce400, hce400, hMe400, hcc400⟩ := Kd.N_get HO_385003.out z25 x9_3 p400 (by first | exact q400 | exact of_decide_eq_true (by first | (with_reducible assumption) | assumption) | (have e_ := (Kd.N_reads' HO_385003.out).1; omega))
              obtain ⟨ua400_3, uc400_3, rfl, ul400_3, ge400_3⟩ := k25_openF hMe400
              have hv400_3 := hcc400 3 _ rfl
              rw [add_field _ _ 3 (by omega)] at hv400_3
              replace hv400_3 := Option.some.inj (hv400_3.symm.trans hx400_3)
              injection hv400_3 with hva_ hvn_ hvc_
              rw [hva_] at ge400_3
              rw [hvc_] at ul400_3
              have HL400_3 := yJ (show Kd.V k25 25 _ w.heap.size _ _ ((rd_T25 t381 x9_3).f3) from Kd.V_mk ul400_3 ge400_3)
              clear hva_ hvn_ hvc_ ge400_3 ul400_3 hcc400 hce400;have HR400_3 := yJ hi400_3;have HC400_3 := yJ hl400_3;clear hi400_3 hl400_3;replace p400 := eq_true p400;replace q400 := eq_true q400
              go_wp2_with (first | ((with_reducible refine gate_callee (f := 25) rfl ?_); refine goesL_ (some 116) rfl rfl Tryd.func25 (by kernel_rfl) rfl #[.agg #[.int .i64 ((rd_T25 t381 x9_3).f0), .string ((rd_T25 t381 x9_3).f1), .int .i64 ((rd_T25 t381 x9_3).f2), .slice A400_3 ((rd_T25 t381 x9_3).f3).length c400_3]] rfl (by (try simp only [List.map_toArray, List.map_cons, List.map_nil]); first | done | rfl | (simp only [List.length_drop, List.length_take]; rfl)) ?_; (with_reducible refine (term_IsObject.calls k3 ((rd_T25 t381 x9_3).f0) ((rd_T25 t381 x9_3).f1) ((rd_T25 t381 x9_3).f2) _ _ ((rd_T25 t381 x9_3).f3) false _ ?side1 ?side2 A97.out).mono ?_); (case side1 => repeat (first | exact (by repeat (first | (with_reducible exact HR400_3.out) | (with_reducible refine Kd.C_alloc ?_ _) | (with_reducible refine Kd.C_drewN ?_ _) | (with_reducible refine Kd.C_drew ?_) | exact HR400_3.out)) | (with_reducible refine Kd.C_alloc ?_ _) | (with_reducible refine Kd.C_drewN ?_ _) | (with_reducible refine Kd.C_drew ?_))); (case side2 => exact HC400_3.out); rintro e w102 ⟨rfl, hb⟩; refine ⟨_, rfl, ?_⟩; have n0_ := yJ (Kd.N_below (by (with_reducible repeat (first | apply Kd.N_alloc | apply Kd.N_drewN | apply Kd.N_drew)); exact HO_385003.out) hb); have n1_ := yJ (Kd.V_below (by (with_reducible repeat (first | apply Kd.V_alloc | apply Kd.V_drewN | apply Kd.V_drew)); exact HL400_3.out) hb); have n2_ := yJ (blk_below (g := gb384) (o := .cells #[.int .i64 t378, .string t379, .int .i64 t380, .slice (some ad400) t381.length co11] 25 (0, 0)) (by (with_reducible repeat (first | refine yA ?_ _ | refine yB ?_ | refine yC ?_ _)); exact BK384.out) hb); have n3_ := yJ (Kd.C_below (by repeat (first | (with_reducible exact HR400_3.out) | (with_reducible refine Kd.C_alloc ?_ _) | (with_reducible refine Kd.C_drewN ?_ _) | (with_reducible refine Kd.C_drew ?_) | exact HR400_3.out)) hb); have n4_ := yJ (below_step (by repeat (first | (with_reducible first | exact HB.out | apply yF | apply yG | apply yH | refine yI ?_ GE384.out) | exact HB.out)) hb); clear HO_385003; clear HL400_3; clear BK384; clear HR400_3; clear HB; have HO_385003 := n0_; have HL400_3 := n1_; have BK384 := n2_; have HR400_3 := n3_; have HB := n4_; clear n0_ n1_ n2_ n3_ n4_; (try clear hb); (try clear hb2); (try clear hk); (try clear hi)))
              go_ret
              exact ⟨by first | rfl | (simp [errW_none, errW_some] <;> rfl) | (simp [*, errW_none, errW_some] <;> rfl), by repeat (first | (with_reducible first | exact HB.out | apply yF | apply yG | apply yH | refine yI ?_ GE384.out) | exact HB.out)⟩
            ·rw [if_neg c96] at H
             exact absurd H (by simp)
           ·rw [if_neg c95] at H
            have c95b0 : decide (x9_3 < (t381.length : Int)) = false := decide_eq_false c95
            clear c95;replace H := yK H;obtain ⟨t402, A1030, H⟩ := H
            replace H : (some t402) = some r := H
            have A103 := yJ A1030;clear A1030
            obtain rfl := Option.some.inj H
            have hcz104_0 : wr.cell? ⟨gb384, 0, none⟩ = some (.int .i64 t378) := (yE BK384.out 0).trans rfl
            have hcz104_1 : wr.cell? ⟨gb384, 1, none⟩ = some (.string t379) := (yE BK384.out 1).trans rfl
            have hcz104_2 : wr.cell? ⟨gb384, 2, none⟩ = some (.int .i64 t380) := (yE BK384.out 2).trans rfl
            have hcz104_3 : wr.cell? ⟨gb384, 3, none⟩ = some (.slice Ao11 t381.length co11) := (yE BK384.out 3).trans rfl
            have hfz104_0 := yD BK384.out 0
            have hfz104_1 := yD BK384.out 1
            have hfz104_2 := yD BK384.out 2
            have hfz104_3 := yD BK384.out 3
            go_wp2_with (first | ((with_reducible refine gate_callee (f := 41) rfl ?_); refine goesL_ (some 118) rfl rfl Tryd.func41 (by kernel_rfl) rfl #[] rfl (by (try simp only [List.map_toArray, List.map_cons, List.map_nil]); first | done | rfl | (simp only [List.length_drop, List.length_take]; rfl)) ?_; (with_reducible refine (f5_awake.calls  t402 _ A103.out).mono ?_); rintro e w105 ⟨rfl, hb⟩; refine ⟨_, rfl, ?_⟩; have n0_ := yJ (Kd.N_below (by (with_reducible repeat (first | apply Kd.N_alloc | apply Kd.N_drewN | apply Kd.N_drew)); exact HO_385003.out) hb); have n1_ := yJ (blk_below (g := gb384) (o := .cells #[.int .i64 t378, .string t379, .int .i64 t380, .slice Ao11 t381.length co11] 25 (0, 0)) (by (with_reducible repeat (first | refine yA ?_ _ | refine yB ?_ | refine yC ?_ _)); exact BK384.out) hb); have n2_ := yJ (below_step (by repeat (first | (with_reducible first | exact HB.out | apply yF | apply yG | apply yH | refine yI ?_ GE384.out) | exact HB.out)) hb); clear HO_385003; clear BK384; clear HB; have HO_385003 := n0_; have BK384 := n1_; have HB := n2_; clear n0_ n1_ n2_; (try clear hb); (try clear hb2); (try clear hk); (try clear hi)))
            go_ret
            exact ⟨by first | rfl | (simp [errW_none, errW_some] <;> rfl) | (simp [*, errW_none, errW_some] <;> rfl), by repeat (first | (with_reducible first | exact HB.out | apply yF | apply yG | apply yH | refine yI ?_ GE384.out) | exact HB.out)⟩
def f5_TermSorts.Pure : Prop := ∀ (l0 : List Int) (l1 : List Int), l0.length ≤ maxLen → l0.length * 8 ≤ 140737488351232 → (∀ x ∈ l0, (Lit.int .i64 x).wf = true) → l1.length ≤ maxLen → l1.length * 8 ≤ 140737488351232 → (∀ x ∈ l1, (Lit.int .i64 x).wf = true) → ∃ k, f5_TermSorts.f k l0 l1 = some true
theorem f5_TermSorts.walk (P : f5_TermSorts.Pure) (a0 : Option Addr) (len0 cap0 : Nat) (z0 : List Int) (a1 : Option Addr) (len1 cap1 : Nat) (z1 : List Int) (w : World) (w0 : (a0 = none ∧ len0 = 0 ∧ cap0 = 0 ∧ z0 = []) ∨ ∃ x, a0 = some x ∧ len0 ≤ cap0 ∧ cap0 ≤ maxLen ∧ z0.length = cap0 ∧ (∀ i, i < z0.length → w.cell? (x.add i) = some (.int .i64 (z0.getD i 0))) ∧ ∀ n ∈ z0, (Lit.int .i64 n).wf = true) (y0 : len0 * 8 ≤ 140737488351232) (w1 : (a1 = none ∧ len1 = 0 ∧ cap1 = 0 ∧ z1 = []) ∨ ∃ x, a1 = some x ∧ len1 ≤ cap1 ∧ cap1 ≤ maxLen ∧ z1.length = cap1 ∧ (∀ i, i < z1.length → w.cell? (x.add i) = some (.int .i64 (z1.getD i 0))) ∧ ∀ n ∈ z1, (Lit.int .i64 n).wf = true) (y1 : len1 * 8 ≤ 140737488351232) (hN : NamesLaid w) :
  Calls Tryd.prog 6 #[.slice a0 len0 cap0, .slice a1 len1 cap1] w fun e w' => e = .returned (.bool true) ∧ Below w.heap.size w w' := by
 obtain ⟨l0, rfl, hr0, hm0, hw0, hc0⟩ := ReadsInt.ofRowC w0
 obtain ⟨l1, rfl, hr1, hm1, hw1, hc1⟩ := ReadsInt.ofRowC w1
 obtain ⟨k, h⟩ := P l0 l1 hm0 y0 hw0 hm1 y1 hw1
 refine (f5_TermSorts.calls k _ _ l0 _ _ l1 true w (Kd.C_of_reads (d := (0 : Int)) (h1 := fun _ => rfl) hr0) hc0 (Kd.C_of_reads (d := (0 : Int)) (h1 := fun _ => rfl) hr1) hc1 h hN).mono ?_
 rintro e w' ⟨rfl, hd⟩
 exact ⟨rfl, hd⟩
def f6_number.f (a0 : Int) : Option (Int) := (some (([0, 1, 2, 3, 5, (-1), 1048576, 1048577, 4611686018427387904, (-9223372036854775808)] : List Int) : List Int)).bind fun y411 => ((fm_Cut.f a0 10).bind fun t414 => (if 0 ≤ t414 then (if t414 < (y411.length : Int) then (some (rd y411 t414)) else (none)) else (none)))
mutual
def r6_Move.j0 : Nat → Int → Int → Bool → Int → ByteArray → Int → List (S25) → Int → ByteArray → Int → Option (Int × ByteArray × Int × (List (S25)))
 | 0, _, _, _, _, _, _, _, _, _, _ => none
 | k + 1, x1, x2, x24, x417000, x417001, x417002, x417003, x419000, x419001, x419002 => if x24 = true then (r6_Move.j1 k x1 x2 x417000 x417001 x417002 x417003 x419000 x419001 (wrap64 (x419002 + x1))) else (r6_Move.j1 k x1 x2 x417000 x417001 x417002 x417003 x419000 x419001 x419002)
def r6_Move.j1 : Nat → Int → Int → Int → ByteArray → Int → List (S25) → Int → ByteArray → Int → Option (Int × ByteArray × Int × (List (S25)))
 | 0, _, _, _, _, _, _, _, _, _ => none
 | k + 1, x1, x2, x417000, x417001, x417002, x417003, x419000, x419001, x419002 => r6_Move.l0 k x1 x2 0 x417000 x417001 x417002 x417003 x419000 x419001 x419002 ([] : List (S25))
def r6_Move.l0 : Nat → Int → Int → Int → Int → ByteArray → Int → List (S25) → Int → ByteArray → Int → List (S25) → Option (Int × ByteArray × Int × (List (S25)))
 | 0, _, _, _, _, _, _, _, _, _, _, _ => none
 | k + 1, x1, x2, x8, x417000, x417001, x417002, x417003, x419000, x419001, x419002, x419003 => if x8 < (x417003.length : Int) then (if 0 ≤ x8 then ((r5_Under.f x417000 x417001 x417002 x417003 x8).bind fun t420 => ((r6_Move.f k ((rd_T25 x417003 x8).f0) ((rd_T25 x417003 x8).f1) ((rd_T25 x417003 x8).f2) ((rd_T25 x417003 x8).f3) x1 (wrap64 (x2 + t420))).bind fun bt421 => (if x419003.length < 2513169434916 then (r6_Move.l0 k x1 x2 (wrap64 (x8 + 1)) x417000 x417001 x417002 x417003 x419000 x419001 x419002 (x419003 ++ [(⟨bt421.1, bt421.2.1, bt421.2.2.1, bt421.2.2.2⟩ : S25)])) else (none)))) else (none)) else (some (x419000, x419001, x419002, x419003))
def r6_Move.f : Nat → Int → ByteArray → Int → List (S25) → Int → Int → Option (Int × ByteArray × Int × (List (S25)))
 | 0, _, _, _, _, _, _ => none
 | k + 1, a0_0, a0_1, a0_2, l0_3, a1, a2 => if a0_0 = 5 then (r6_Move.j0 k a1 a2 (decide (a0_2 ≥ a2)) a0_0 a0_1 a0_2 l0_3 a0_0 a0_1 a0_2) else (r6_Move.j0 k a1 a2 false a0_0 a0_1 a0_2 l0_3 a0_0 a0_1 a0_2)
end
end Go.Proofs.YtpkkoiljombooaaDoor.G
