import Derived.Test.YtpkkoiljombooaaKG0
import Derived.Test.YtpkkoiljombooaaKG1
import Derived.Test.YtpkkoiljombooaaKG4
import Derived.Test.YtpkkoiljombooaaKH2
import Derived.Test.YtpkkoiljombooaaKH3
namespace Go.Proofs.Ytpkkoiljombooaa.G
open Go.RowKit Go.Proofs.YtpkkoiljombooaaW.PrintWords Go.Proofs.YtpkkoiljombooaaW.PrintLast Go.Proofs.YtpkkoiljombooaaW.PrintMore
attribute [local go_sem] max2_int min2_int max_two min_two max_three min_three max_four min_four
set_option linter.unusedVariables false
set_option linter.unusedSimpArgs false
def term_small.f (k : Nat) (a0_0 : Int) (a0_1 : ByteArray) (a0_2 : Int) (l0_3 : List (S25)) : Option (Bool) := (term_Size.f a0_0 a0_1 a0_2 l0_3).bind fun t122 => (if t122 ≤ 4096 then ((term_Depth.f k a0_0 a0_1 a0_2 l0_3).bind fun t123 => (some (decide (t123 ≤ 128)))) else (some false))
set_option maxHeartbeats 8000000 in
set_option maxRecDepth 100000 in
theorem term_small.calls (k : Nat) (a0_0 : Int) (a0_1 : ByteArray) (a0_2 : Int) (A0_3 : Option Addr) (c0_3 : Nat) (l0_3 : List (S25)) (r : Bool) (w : World) (hr0_3 : Kd.C k25 w A0_3 l0_3.length l0_3) (hc0_3 : l0_3.length ≤ c0_3) (h : term_small.f k a0_0 a0_1 a0_2 l0_3 = some r) :
  Calls Try.prog 22 #[.agg #[.int .i64 a0_0, .string a0_1, .int .i64 a0_2, .slice A0_3 l0_3.length c0_3]] w fun e w' => e = .returned (.bool r) ∧ Below w.heap.size w w' := by
 have hu25 := Try.underlying25;have HR0_3 := yJ hr0_3;have HC0_3 := yJ hc0_3;clear hr0_3 hc0_3
 have HB := yJ (Below.refl w.heap.size w)
 have H : ((term_Size.f a0_0 a0_1 a0_2 l0_3).bind fun t122 => (if t122 ≤ 4096 then ((term_Depth.f k a0_0 a0_1 a0_2 l0_3).bind fun t123 => (some (decide (t123 ≤ 128)))) else (some false))) = some r := h
 clear h;replace H := yK H;obtain ⟨t122, A20, H⟩ := H
 replace H : (if t122 ≤ 4096 then ((term_Depth.f k a0_0 a0_1 a0_2 l0_3).bind fun t123 => (some (decide (t123 ≤ 128)))) else (some false)) = some r := H
 have A2 := yJ A20;clear A20
 by_cases c3 : t122 ≤ 4096
 ·rw [if_pos c3] at H
  have c3b0 : decide (t122 ≤ 4096) = true := decide_eq_true c3
  clear c3;replace H := yK H;obtain ⟨t123, A40, H⟩ := H
  replace H : (some (decide (t123 ≤ 128))) = some r := H
  have A4 := yJ A40;clear A40
  obtain rfl := Option.some.inj H
  go_enter Try.func22, Try.ntmps22
  go_wp2_with (first | ((with_reducible refine gate_dst (N := 1) rfl ?_); refine box_event ?hg (N := 1) ?hd (cs := #[.int .i64 a0_0, .string a0_1, .int .i64 a0_2, .slice A0_3 l0_3.length c0_3]) (t := 25) ?hr ?_; (case hd => rfl); (case hg => rfl); (case hr => first | (go_simp; done) | (go_simp; rfl)); intro gb121 hg w5 hbox hb; have n0_ := yJ (below_step (pb HB.out) hb); have n1_ := yJ (hbox); have n2_ := yJ ((by rw [hg]; exact (below_size (pb HB.out)) : w.heap.size ≤ gb121)); have n3_ := yJ ((by rw [hg]; exact (below_size (pb HB.out)) : w.heap.size ≤ gb121)); clear HB; have HB := n0_; have BK121 := n1_; have GW121 := n2_; have GE121 := n3_; clear n0_ n1_ n2_ n3_; clear hb hbox hg; have hcz6_0 : w5.cell? ⟨gb121, 0, none⟩ = some (.int .i64 a0_0) := (yE BK121.out 0).trans rfl; have hcz6_1 : w5.cell? ⟨gb121, 1, none⟩ = some (.string a0_1) := (yE BK121.out 1).trans rfl; have hcz6_2 : w5.cell? ⟨gb121, 2, none⟩ = some (.int .i64 a0_2) := (yE BK121.out 2).trans rfl; have hcz6_3 : w5.cell? ⟨gb121, 3, none⟩ = some (.slice A0_3 l0_3.length c0_3) := (yE BK121.out 3).trans rfl; have hfz6_0 := yD BK121.out 0; have hfz6_1 := yD BK121.out 1; have hfz6_2 := yD BK121.out 2; have hfz6_3 := yD BK121.out 3) | ((with_reducible refine gate_callee (f := 9) rfl ?_); refine goesL_ (some 4) rfl rfl Try.func9 (by kernel_rfl) rfl #[.agg #[.int .i64 a0_0, .string a0_1, .int .i64 a0_2, .slice A0_3 l0_3.length c0_3]] rfl (by (try simp only [List.map_toArray, List.map_cons, List.map_nil]); first | done | rfl | (simp only [List.length_drop, List.length_take]; rfl)) ?_; (with_reducible refine (term_Size.calls a0_0 a0_1 a0_2 _ _ l0_3 t122 _ ?side1 ?side2 A2.out).mono ?_); (case side1 => repeat (first | exact (Kd.C_below HR0_3.out HB.out) | (with_reducible refine Kd.C_alloc ?_ _) | (with_reducible refine Kd.C_drewN ?_ _) | (with_reducible refine Kd.C_drew ?_))); (case side2 => exact HC0_3.out); rintro e w7 ⟨rfl, hb⟩; refine ⟨_, rfl, ?_⟩; have n0_ := yJ (blk_below (g := gb121) (o := .cells #[.int .i64 a0_0, .string a0_1, .int .i64 a0_2, .slice A0_3 l0_3.length c0_3] 25 (0, 0)) (pk BK121.out) hb); have n1_ := yJ (below_step (pb HB.out) hb); clear BK121; clear HB; have BK121 := n0_; have HB := n1_; clear n0_ n1_; (try clear hb); (try clear hb2); (try clear hk); (try clear hi); have hcz8_0 : w7.cell? ⟨gb121, 0, none⟩ = some (.int .i64 a0_0) := (yE BK121.out 0).trans rfl; have hcz8_1 : w7.cell? ⟨gb121, 1, none⟩ = some (.string a0_1) := (yE BK121.out 1).trans rfl; have hcz8_2 : w7.cell? ⟨gb121, 2, none⟩ = some (.int .i64 a0_2) := (yE BK121.out 2).trans rfl; have hcz8_3 : w7.cell? ⟨gb121, 3, none⟩ = some (.slice A0_3 l0_3.length c0_3) := (yE BK121.out 3).trans rfl; have hfz8_0 := yD BK121.out 0; have hfz8_1 := yD BK121.out 1; have hfz8_2 := yD BK121.out 2; have hfz8_3 := yD BK121.out 3) | (go_at_call 6; (with_reducible refine (term_Depth.calls k a0_0 a0_1 a0_2 _ _ l0_3 t123 _ ?side1 ?side2 A4.out).mono ?_); (case side1 => repeat (first | exact (Kd.C_below HR0_3.out HB.out) | (with_reducible refine Kd.C_alloc ?_ _) | (with_reducible refine Kd.C_drewN ?_ _) | (with_reducible refine Kd.C_drew ?_))); (case side2 => exact HC0_3.out); rintro e w9 ⟨rfl, hb⟩; have n0_ := yJ (blk_below (g := gb121) (o := .cells #[.int .i64 a0_0, .string a0_1, .int .i64 a0_2, .slice A0_3 l0_3.length c0_3] 25 (0, 0)) (pk BK121.out) hb); have n1_ := yJ (below_step (pb HB.out) hb); clear BK121; clear HB; have BK121 := n0_; have HB := n1_; clear n0_ n1_; (try clear hb); (try clear hb2); (try clear hk); (try clear hi)))
  go_ret
  exact ⟨by first | rfl | (simp [errW_none, errW_some] <;> rfl) | (simp [*, errW_none, errW_some] <;> rfl), pb HB.out⟩
 ·rw [if_neg c3] at H
  have c3b0 : decide (t122 ≤ 4096) = false := decide_eq_false c3
  clear c3
  obtain rfl := Option.some.inj H
  go_enter Try.func22, Try.ntmps22
  go_wp2_with (first | ((with_reducible refine gate_dst (N := 1) rfl ?_); refine box_event ?hg (N := 1) ?hd (cs := #[.int .i64 a0_0, .string a0_1, .int .i64 a0_2, .slice A0_3 l0_3.length c0_3]) (t := 25) ?hr ?_; (case hd => rfl); (case hg => rfl); (case hr => first | (go_simp; done) | (go_simp; rfl)); intro gb121 hg w10 hbox hb; have n0_ := yJ (below_step (pb HB.out) hb); have n1_ := yJ (hbox); have n2_ := yJ ((by rw [hg]; exact (below_size (pb HB.out)) : w.heap.size ≤ gb121)); have n3_ := yJ ((by rw [hg]; exact (below_size (pb HB.out)) : w.heap.size ≤ gb121)); clear HB; have HB := n0_; have BK121 := n1_; have GW121 := n2_; have GE121 := n3_; clear n0_ n1_ n2_ n3_; clear hb hbox hg; have hcz11_0 : w10.cell? ⟨gb121, 0, none⟩ = some (.int .i64 a0_0) := (yE BK121.out 0).trans rfl; have hcz11_1 : w10.cell? ⟨gb121, 1, none⟩ = some (.string a0_1) := (yE BK121.out 1).trans rfl; have hcz11_2 : w10.cell? ⟨gb121, 2, none⟩ = some (.int .i64 a0_2) := (yE BK121.out 2).trans rfl; have hcz11_3 : w10.cell? ⟨gb121, 3, none⟩ = some (.slice A0_3 l0_3.length c0_3) := (yE BK121.out 3).trans rfl; have hfz11_0 := yD BK121.out 0; have hfz11_1 := yD BK121.out 1; have hfz11_2 := yD BK121.out 2; have hfz11_3 := yD BK121.out 3) | ((with_reducible refine gate_callee (f := 9) rfl ?_); refine goesL_ (some 4) rfl rfl Try.func9 (by kernel_rfl) rfl #[.agg #[.int .i64 a0_0, .string a0_1, .int .i64 a0_2, .slice A0_3 l0_3.length c0_3]] rfl (by (try simp only [List.map_toArray, List.map_cons, List.map_nil]); first | done | rfl | (simp only [List.length_drop, List.length_take]; rfl)) ?_; (with_reducible refine (term_Size.calls a0_0 a0_1 a0_2 _ _ l0_3 t122 _ ?side1 ?side2 A2.out).mono ?_); (case side1 => repeat (first | exact (Kd.C_below HR0_3.out HB.out) | (with_reducible refine Kd.C_alloc ?_ _) | (with_reducible refine Kd.C_drewN ?_ _) | (with_reducible refine Kd.C_drew ?_))); (case side2 => exact HC0_3.out); rintro e w12 ⟨rfl, hb⟩; refine ⟨_, rfl, ?_⟩; have n0_ := yJ (blk_below (g := gb121) (o := .cells #[.int .i64 a0_0, .string a0_1, .int .i64 a0_2, .slice A0_3 l0_3.length c0_3] 25 (0, 0)) (pk BK121.out) hb); have n1_ := yJ (below_step (pb HB.out) hb); clear BK121; clear HB; have BK121 := n0_; have HB := n1_; clear n0_ n1_; (try clear hb); (try clear hb2); (try clear hk); (try clear hi)))
  go_ret
  exact ⟨by first | rfl | (simp [errW_none, errW_some] <;> rfl) | (simp [*, errW_none, errW_some] <;> rfl), pb HB.out⟩
def term_WellFormed.j0 : Nat → Bool → Int → ByteArray → Int → List (S25) → Option (Int)
 | 0, _, _, _, _, _ => none
 | k + 1, x15, x125000, x125001, x125002, x125003 => if x15 = true then (some 1) else ((term_small.f k x125000 x125001 x125002 x125003).bind fun t128 => (if t128 = true then (some 0) else (some 2)))
def term_WellFormed.f (k : Nat) (a0_0 : Int) (a0_1 : ByteArray) (a0_2 : Int) (l0_3 : List (S25)) : Option (Int) := (term_object.f a0_0 a0_1 a0_2 l0_3).bind fun t125 => (if t125 = true then (term_WellFormed.j0 k false a0_0 a0_1 a0_2 l0_3) else ((term_typed.f k a0_0 a0_1 a0_2 l0_3).bind fun t126 => (if t126 = true then (term_WellFormed.j0 k false a0_0 a0_1 a0_2 l0_3) else ((term_kind.f k a0_0 a0_1 a0_2 l0_3).bind fun t127 => (term_WellFormed.j0 k (!t127) a0_0 a0_1 a0_2 l0_3)))))
set_option maxHeartbeats 8000000 in
set_option maxRecDepth 100000 in
theorem term_WellFormed.calls (k : Nat) (a0_0 : Int) (a0_1 : ByteArray) (a0_2 : Int) (A0_3 : Option Addr) (c0_3 : Nat) (l0_3 : List (S25)) (r : Int) (w : World) (hr0_3 : Kd.C k25 w A0_3 l0_3.length l0_3) (hc0_3 : l0_3.length ≤ c0_3) (h : term_WellFormed.f k a0_0 a0_1 a0_2 l0_3 = some r) :
  Calls Try.prog 7 #[.agg #[.int .i64 a0_0, .string a0_1, .int .i64 a0_2, .slice A0_3 l0_3.length c0_3]] w fun e w' => e = .returned (.int .i64 r) ∧ Below w.heap.size w w' := by
 have hu25 := Try.underlying25;have HR0_3 := yJ hr0_3;have HC0_3 := yJ hc0_3;clear hr0_3 hc0_3
 have HB := yJ (Below.refl w.heap.size w)
 have H : ((term_object.f a0_0 a0_1 a0_2 l0_3).bind fun t125 => (if t125 = true then (term_WellFormed.j0 k false a0_0 a0_1 a0_2 l0_3) else ((term_typed.f k a0_0 a0_1 a0_2 l0_3).bind fun t126 => (if t126 = true then (term_WellFormed.j0 k false a0_0 a0_1 a0_2 l0_3) else ((term_kind.f k a0_0 a0_1 a0_2 l0_3).bind fun t127 => (term_WellFormed.j0 k (!t127) a0_0 a0_1 a0_2 l0_3)))))) = some r := h
 clear h;have HC2 := yJ H;clear H
 go_enter Try.func7, Try.ntmps7
 go_upto_region 1 with (first | ((with_reducible refine gate_dst (N := 1) rfl ?_); refine box_event ?hg (N := 1) ?hd (cs := #[.int .i64 a0_0, .string a0_1, .int .i64 a0_2, .slice A0_3 l0_3.length c0_3]) (t := 25) ?hr ?_; (case hd => rfl); (case hg => rfl); (case hr => first | (go_simp; done) | (go_simp; rfl)); intro gb124 hg w3 hbox hb; have n0_ := yJ (below_step (pb HB.out) hb); have n1_ := yJ (hbox); have n2_ := yJ ((by rw [hg]; exact (below_size (pb HB.out)) : w.heap.size ≤ gb124)); have n3_ := yJ ((by rw [hg]; exact (below_size (pb HB.out)) : w.heap.size ≤ gb124)); clear HB; have HB := n0_; have BK124 := n1_; have GW124 := n2_; have GE124 := n3_; clear n0_ n1_ n2_ n3_; clear hb hbox hg))
 (try simp only [Act.put, List.setIfInBounds_toArray, List.set_cons_zero, List.set_cons_succ])
 go_cut [15] (fun v15 wc => ∃ (kq : Nat) (x15_1 : Bool), v15 = .bool x15_1 ∧ Aside0 (term_WellFormed.j0 kq x15_1 a0_0 a0_1 a0_2 l0_3 = some r) ∧ Aside0 (kq ≤ k) ∧ Aside0 (wc.heap[gb124]? = some (.cells #[.int .i64 a0_0, .string a0_1, .int .i64 a0_2, (.slice A0_3 l0_3.length c0_3)] 25 (0, 0))) ∧ Aside0 (Below w.heap.size w wc))
 case first =>
  have H := HC2.out;clear HC2;replace H := yK H;obtain ⟨t125, A40, H⟩ := H
  replace H : (if t125 = true then (term_WellFormed.j0 k false a0_0 a0_1 a0_2 l0_3) else ((term_typed.f k a0_0 a0_1 a0_2 l0_3).bind fun t126 => (if t126 = true then (term_WellFormed.j0 k false a0_0 a0_1 a0_2 l0_3) else ((term_kind.f k a0_0 a0_1 a0_2 l0_3).bind fun t127 => (term_WellFormed.j0 k (!t127) a0_0 a0_1 a0_2 l0_3))))) = some r := H
  have A4 := yJ A40;clear A40
  by_cases c5 : t125 = true
  ·subst c5
   have H1 : (term_WellFormed.j0 k false a0_0 a0_1 a0_2 l0_3) = some r := by rw [if_pos rfl] at H; exact H
   clear H;have H := H1;clear H1
   have H' := yJ H
   clear H
   have hcz6_0 : w3.cell? ⟨gb124, 0, none⟩ = some (.int .i64 a0_0) := (yE BK124.out 0).trans rfl
   have hcz6_1 : w3.cell? ⟨gb124, 1, none⟩ = some (.string a0_1) := (yE BK124.out 1).trans rfl
   have hcz6_2 : w3.cell? ⟨gb124, 2, none⟩ = some (.int .i64 a0_2) := (yE BK124.out 2).trans rfl
   have hcz6_3 : w3.cell? ⟨gb124, 3, none⟩ = some (.slice A0_3 l0_3.length c0_3) := (yE BK124.out 3).trans rfl
   have hfz6_0 := yD BK124.out 0
   have hfz6_1 := yD BK124.out 1
   have hfz6_2 := yD BK124.out 2
   have hfz6_3 := yD BK124.out 3
   go_wp2_with (first | ((with_reducible refine gate_callee (f := 19) rfl ?_); refine goesL_ (some 4) rfl rfl Try.func19 (by kernel_rfl) rfl #[.agg #[.int .i64 a0_0, .string a0_1, .int .i64 a0_2, .slice A0_3 l0_3.length c0_3]] rfl (by (try simp only [List.map_toArray, List.map_cons, List.map_nil]); first | done | rfl | (simp only [List.length_drop, List.length_take]; rfl)) ?_; (with_reducible refine (term_object.calls a0_0 a0_1 a0_2 _ _ l0_3 true _ ?side1 ?side2 A4.out).mono ?_); (case side1 => repeat (first | exact (Kd.C_below HR0_3.out HB.out) | (with_reducible refine Kd.C_alloc ?_ _) | (with_reducible refine Kd.C_drewN ?_ _) | (with_reducible refine Kd.C_drew ?_))); (case side2 => exact HC0_3.out); rintro e w7 ⟨rfl, hb⟩; refine ⟨_, rfl, ?_⟩; have n0_ := yJ (blk_below (g := gb124) (o := .cells #[.int .i64 a0_0, .string a0_1, .int .i64 a0_2, .slice A0_3 l0_3.length c0_3] 25 (0, 0)) (pk BK124.out) hb); have n1_ := yJ (below_step (pb HB.out) hb); clear BK124; clear HB; have BK124 := n0_; have HB := n1_; clear n0_ n1_; (try clear hb); (try clear hb2); (try clear hk); (try clear hi)))
   go_meet
   case rel => exact ⟨_, (false), (by first | rfl | (simp; done) | (simp [*]; done)), H', ⟨by first | omega | exact Nat.le_refl _⟩, ⟨pk BK124.out⟩, ⟨pb HB.out⟩⟩
  ·replace c5 := Bool.eq_false_iff.mpr c5
   subst c5
   have H1 : ((term_typed.f k a0_0 a0_1 a0_2 l0_3).bind fun t126 => (if t126 = true then (term_WellFormed.j0 k false a0_0 a0_1 a0_2 l0_3) else ((term_kind.f k a0_0 a0_1 a0_2 l0_3).bind fun t127 => (term_WellFormed.j0 k (!t127) a0_0 a0_1 a0_2 l0_3)))) = some r := by rw [if_neg (show ¬ (false = true) by decide)] at H; exact H
   clear H;have H := H1;clear H1;replace H := yK H;obtain ⟨t126, A80, H⟩ := H
   replace H : (if t126 = true then (term_WellFormed.j0 k false a0_0 a0_1 a0_2 l0_3) else ((term_kind.f k a0_0 a0_1 a0_2 l0_3).bind fun t127 => (term_WellFormed.j0 k (!t127) a0_0 a0_1 a0_2 l0_3))) = some r := H
   have A8 := yJ A80;clear A80
   by_cases c9 : t126 = true
   ·subst c9
    have H1 : (term_WellFormed.j0 k false a0_0 a0_1 a0_2 l0_3) = some r := by rw [if_pos rfl] at H; exact H
    clear H;have H := H1;clear H1
    have H' := yJ H
    clear H
    have hcz10_0 : w3.cell? ⟨gb124, 0, none⟩ = some (.int .i64 a0_0) := (yE BK124.out 0).trans rfl
    have hcz10_1 : w3.cell? ⟨gb124, 1, none⟩ = some (.string a0_1) := (yE BK124.out 1).trans rfl
    have hcz10_2 : w3.cell? ⟨gb124, 2, none⟩ = some (.int .i64 a0_2) := (yE BK124.out 2).trans rfl
    have hcz10_3 : w3.cell? ⟨gb124, 3, none⟩ = some (.slice A0_3 l0_3.length c0_3) := (yE BK124.out 3).trans rfl
    have hfz10_0 := yD BK124.out 0
    have hfz10_1 := yD BK124.out 1
    have hfz10_2 := yD BK124.out 2
    have hfz10_3 := yD BK124.out 3
    go_wp2_with (first | ((with_reducible refine gate_callee (f := 19) rfl ?_); refine goesL_ (some 4) rfl rfl Try.func19 (by kernel_rfl) rfl #[.agg #[.int .i64 a0_0, .string a0_1, .int .i64 a0_2, .slice A0_3 l0_3.length c0_3]] rfl (by (try simp only [List.map_toArray, List.map_cons, List.map_nil]); first | done | rfl | (simp only [List.length_drop, List.length_take]; rfl)) ?_; (with_reducible refine (term_object.calls a0_0 a0_1 a0_2 _ _ l0_3 false _ ?side1 ?side2 A4.out).mono ?_); (case side1 => repeat (first | exact (Kd.C_below HR0_3.out HB.out) | (with_reducible refine Kd.C_alloc ?_ _) | (with_reducible refine Kd.C_drewN ?_ _) | (with_reducible refine Kd.C_drew ?_))); (case side2 => exact HC0_3.out); rintro e w11 ⟨rfl, hb⟩; refine ⟨_, rfl, ?_⟩; have n0_ := yJ (blk_below (g := gb124) (o := .cells #[.int .i64 a0_0, .string a0_1, .int .i64 a0_2, .slice A0_3 l0_3.length c0_3] 25 (0, 0)) (pk BK124.out) hb); have n1_ := yJ (below_step (pb HB.out) hb); clear BK124; clear HB; have BK124 := n0_; have HB := n1_; clear n0_ n1_; (try clear hb); (try clear hb2); (try clear hk); (try clear hi); have hcz12_0 : w11.cell? ⟨gb124, 0, none⟩ = some (.int .i64 a0_0) := (yE BK124.out 0).trans rfl; have hcz12_1 : w11.cell? ⟨gb124, 1, none⟩ = some (.string a0_1) := (yE BK124.out 1).trans rfl; have hcz12_2 : w11.cell? ⟨gb124, 2, none⟩ = some (.int .i64 a0_2) := (yE BK124.out 2).trans rfl; have hcz12_3 : w11.cell? ⟨gb124, 3, none⟩ = some (.slice A0_3 l0_3.length c0_3) := (yE BK124.out 3).trans rfl; have hfz12_0 := yD BK124.out 0; have hfz12_1 := yD BK124.out 1; have hfz12_2 := yD BK124.out 2; have hfz12_3 := yD BK124.out 3) | (go_at_call 20; (with_reducible refine (term_typed.calls k a0_0 a0_1 a0_2 _ _ l0_3 true _ ?side1 ?side2 A8.out).mono ?_); (case side1 => repeat (first | exact (Kd.C_below HR0_3.out HB.out) | (with_reducible refine Kd.C_alloc ?_ _) | (with_reducible refine Kd.C_drewN ?_ _) | (with_reducible refine Kd.C_drew ?_))); (case side2 => exact HC0_3.out); rintro e w13 ⟨rfl, hb⟩; have n0_ := yJ (blk_below (g := gb124) (o := .cells #[.int .i64 a0_0, .string a0_1, .int .i64 a0_2, .slice A0_3 l0_3.length c0_3] 25 (0, 0)) (pk BK124.out) hb); have n1_ := yJ (below_step (pb HB.out) hb); clear BK124; clear HB; have BK124 := n0_; have HB := n1_; clear n0_ n1_; (try clear hb); (try clear hb2); (try clear hk); (try clear hi)))
    go_meet
    case rel => exact ⟨_, (false), (by first | rfl | (simp; done) | (simp [*]; done)), H', ⟨by first | omega | exact Nat.le_refl _⟩, ⟨pk BK124.out⟩, ⟨pb HB.out⟩⟩
   ·replace c9 := Bool.eq_false_iff.mpr c9
    subst c9
    have H1 : ((term_kind.f k a0_0 a0_1 a0_2 l0_3).bind fun t127 => (term_WellFormed.j0 k (!t127) a0_0 a0_1 a0_2 l0_3)) = some r := by rw [if_neg (show ¬ (false = true) by decide)] at H; exact H
    clear H;have H := H1;clear H1;replace H := yK H;obtain ⟨t127, A140, H⟩ := H
    replace H : (term_WellFormed.j0 k (!t127) a0_0 a0_1 a0_2 l0_3) = some r := H
    have A14 := yJ A140;clear A140
    have H' := yJ H
    clear H
    have hcz15_0 : w3.cell? ⟨gb124, 0, none⟩ = some (.int .i64 a0_0) := (yE BK124.out 0).trans rfl
    have hcz15_1 : w3.cell? ⟨gb124, 1, none⟩ = some (.string a0_1) := (yE BK124.out 1).trans rfl
    have hcz15_2 : w3.cell? ⟨gb124, 2, none⟩ = some (.int .i64 a0_2) := (yE BK124.out 2).trans rfl
    have hcz15_3 : w3.cell? ⟨gb124, 3, none⟩ = some (.slice A0_3 l0_3.length c0_3) := (yE BK124.out 3).trans rfl
    have hfz15_0 := yD BK124.out 0
    have hfz15_1 := yD BK124.out 1
    have hfz15_2 := yD BK124.out 2
    have hfz15_3 := yD BK124.out 3
    go_wp2_with (first | ((with_reducible refine gate_callee (f := 19) rfl ?_); refine goesL_ (some 4) rfl rfl Try.func19 (by kernel_rfl) rfl #[.agg #[.int .i64 a0_0, .string a0_1, .int .i64 a0_2, .slice A0_3 l0_3.length c0_3]] rfl (by (try simp only [List.map_toArray, List.map_cons, List.map_nil]); first | done | rfl | (simp only [List.length_drop, List.length_take]; rfl)) ?_; (with_reducible refine (term_object.calls a0_0 a0_1 a0_2 _ _ l0_3 false _ ?side1 ?side2 A4.out).mono ?_); (case side1 => repeat (first | exact (Kd.C_below HR0_3.out HB.out) | (with_reducible refine Kd.C_alloc ?_ _) | (with_reducible refine Kd.C_drewN ?_ _) | (with_reducible refine Kd.C_drew ?_))); (case side2 => exact HC0_3.out); rintro e w16 ⟨rfl, hb⟩; refine ⟨_, rfl, ?_⟩; have n0_ := yJ (blk_below (g := gb124) (o := .cells #[.int .i64 a0_0, .string a0_1, .int .i64 a0_2, .slice A0_3 l0_3.length c0_3] 25 (0, 0)) (pk BK124.out) hb); have n1_ := yJ (below_step (pb HB.out) hb); clear BK124; clear HB; have BK124 := n0_; have HB := n1_; clear n0_ n1_; (try clear hb); (try clear hb2); (try clear hk); (try clear hi); have hcz17_0 : w16.cell? ⟨gb124, 0, none⟩ = some (.int .i64 a0_0) := (yE BK124.out 0).trans rfl; have hcz17_1 : w16.cell? ⟨gb124, 1, none⟩ = some (.string a0_1) := (yE BK124.out 1).trans rfl; have hcz17_2 : w16.cell? ⟨gb124, 2, none⟩ = some (.int .i64 a0_2) := (yE BK124.out 2).trans rfl; have hcz17_3 : w16.cell? ⟨gb124, 3, none⟩ = some (.slice A0_3 l0_3.length c0_3) := (yE BK124.out 3).trans rfl; have hfz17_0 := yD BK124.out 0; have hfz17_1 := yD BK124.out 1; have hfz17_2 := yD BK124.out 2; have hfz17_3 := yD BK124.out 3) | (go_at_call 20; (with_reducible refine (term_typed.calls k a0_0 a0_1 a0_2 _ _ l0_3 false _ ?side1 ?side2 A8.out).mono ?_); (case side1 => repeat (first | exact (Kd.C_below HR0_3.out HB.out) | (with_reducible refine Kd.C_alloc ?_ _) | (with_reducible refine Kd.C_drewN ?_ _) | (with_reducible refine Kd.C_drew ?_))); (case side2 => exact HC0_3.out); rintro e w18 ⟨rfl, hb⟩; have n0_ := yJ (blk_below (g := gb124) (o := .cells #[.int .i64 a0_0, .string a0_1, .int .i64 a0_2, .slice A0_3 l0_3.length c0_3] 25 (0, 0)) (pk BK124.out) hb); have n1_ := yJ (below_step (pb HB.out) hb); clear BK124; clear HB; have BK124 := n0_; have HB := n1_; clear n0_ n1_; (try clear hb); (try clear hb2); (try clear hk); (try clear hi); have hcz19_0 : w18.cell? ⟨gb124, 0, none⟩ = some (.int .i64 a0_0) := (yE BK124.out 0).trans rfl; have hcz19_1 : w18.cell? ⟨gb124, 1, none⟩ = some (.string a0_1) := (yE BK124.out 1).trans rfl; have hcz19_2 : w18.cell? ⟨gb124, 2, none⟩ = some (.int .i64 a0_2) := (yE BK124.out 2).trans rfl; have hcz19_3 : w18.cell? ⟨gb124, 3, none⟩ = some (.slice A0_3 l0_3.length c0_3) := (yE BK124.out 3).trans rfl; have hfz19_0 := yD BK124.out 0; have hfz19_1 := yD BK124.out 1; have hfz19_2 := yD BK124.out 2; have hfz19_3 := yD BK124.out 3) | (go_at_call 21; (with_reducible refine (term_kind.calls k a0_0 a0_1 a0_2 _ _ l0_3 t127 _ ?side1 ?side2 A14.out).mono ?_); (case side1 => repeat (first | exact (Kd.C_below HR0_3.out HB.out) | (with_reducible refine Kd.C_alloc ?_ _) | (with_reducible refine Kd.C_drewN ?_ _) | (with_reducible refine Kd.C_drew ?_))); (case side2 => exact HC0_3.out); rintro e w20 ⟨rfl, hb⟩; have n0_ := yJ (blk_below (g := gb124) (o := .cells #[.int .i64 a0_0, .string a0_1, .int .i64 a0_2, .slice A0_3 l0_3.length c0_3] 25 (0, 0)) (pk BK124.out) hb); have n1_ := yJ (below_step (pb HB.out) hb); clear BK124; clear HB; have BK124 := n0_; have HB := n1_; clear n0_ n1_; (try clear hb); (try clear hb2); (try clear hk); (try clear hi)))
    go_meet
    case rel => exact ⟨_, (!t127), (by first | rfl | (simp; done) | (simp [*]; done)), H', ⟨by first | omega | exact Nat.le_refl _⟩, ⟨pk BK124.out⟩, ⟨pb HB.out⟩⟩
 case rest =>
  clear HC2
  try clear c1
  try clear p2
  try clear c5
  try clear c7
  try clear c9
  try clear c19
  try clear hcz10_0
  try clear hcz10_1
  try clear hcz10_2
  try clear hcz10_3
  try clear hcz12_0
  try clear hcz12_1
  try clear hcz12_2
  try clear hcz12_3
  try clear hcz15_0
  try clear hcz15_1
  try clear hcz15_2
  try clear hcz15_3
  try clear hcz17_0
  try clear hcz17_1
  try clear hcz17_2
  try clear hcz17_3
  try clear hcz19_0
  try clear hcz19_1
  try clear hcz19_2
  try clear hcz19_3
  try clear hcz6_0
  try clear hcz6_1
  try clear hcz6_2
  try clear hcz6_3
  try clear hfz10_0
  try clear hfz10_1
  try clear hfz10_2
  try clear hfz10_3
  try clear hfz12_0
  try clear hfz12_1
  try clear hfz12_2
  try clear hfz12_3
  try clear hfz15_0
  try clear hfz15_1
  try clear hfz15_2
  try clear hfz15_3
  try clear hfz17_0
  try clear hfz17_1
  try clear hfz17_2
  try clear hfz17_3
  try clear hfz19_0
  try clear hfz19_1
  try clear hfz19_2
  try clear hfz19_3
  try clear hfz6_0
  try clear hfz6_1
  try clear hfz6_2
  try clear hfz6_3
  obtain ⟨kq, x15_1, rfl, HA, HJ1, BK124, HB⟩ := hcut
  cases kq with
  | zero => exact absurd HA.out (by simp [term_WellFormed.j0])
  | succ kj1 =>
   have H := HA.out;clear HA
   simp only [term_WellFormed.j0] at H
   by_cases c21 : x15_1 = true
   ·subst c21
    have H1 : (some 1) = some r := by rw [if_pos rfl] at H; exact H
    clear H;have H := H1;clear H1
    obtain rfl := Option.some.inj H
    go_wp2
    go_ret
    exact ⟨by first | rfl | (simp [errW_none, errW_some] <;> rfl) | (simp [*, errW_none, errW_some] <;> rfl), pb HB.out⟩
   ·replace c21 := Bool.eq_false_iff.mpr c21
    subst c21
    have H1 : ((term_small.f kj1 a0_0 a0_1 a0_2 l0_3).bind fun t128 => (if t128 = true then (some 0) else (some 2))) = some r := by rw [if_neg (show ¬ (false = true) by decide)] at H; exact H
    clear H;have H := H1;clear H1;replace H := yK H;obtain ⟨t128, A220, H⟩ := H
    replace H : (if t128 = true then (some 0) else (some 2)) = some r := H
    have A22 := yJ A220;clear A220
    by_cases c23 : t128 = true
    ·subst c23
     have H1 : (some 0) = some r := by rw [if_pos rfl] at H; exact H
     clear H;have H := H1;clear H1
     obtain rfl := Option.some.inj H
     have hcz24_0 : wc.cell? ⟨gb124, 0, none⟩ = some (.int .i64 a0_0) := (yE BK124.out 0).trans rfl
     have hcz24_1 : wc.cell? ⟨gb124, 1, none⟩ = some (.string a0_1) := (yE BK124.out 1).trans rfl
     have hcz24_2 : wc.cell? ⟨gb124, 2, none⟩ = some (.int .i64 a0_2) := (yE BK124.out 2).trans rfl
     have hcz24_3 : wc.cell? ⟨gb124, 3, none⟩ = some (.slice A0_3 l0_3.length c0_3) := (yE BK124.out 3).trans rfl
     have hfz24_0 := yD BK124.out 0
     have hfz24_1 := yD BK124.out 1
     have hfz24_2 := yD BK124.out 2
     have hfz24_3 := yD BK124.out 3
     go_wp2_with (first | ((with_reducible refine gate_callee (f := 22) rfl ?_); refine goesL_ (some 17) rfl rfl Try.func22 (by kernel_rfl) rfl #[.agg #[.int .i64 a0_0, .string a0_1, .int .i64 a0_2, .slice A0_3 l0_3.length c0_3]] rfl (by (try simp only [List.map_toArray, List.map_cons, List.map_nil]); first | done | rfl | (simp only [List.length_drop, List.length_take]; rfl)) ?_; (with_reducible refine (term_small.calls kj1 a0_0 a0_1 a0_2 _ _ l0_3 true _ ?side1 ?side2 A22.out).mono ?_); (case side1 => repeat (first | exact (Kd.C_below HR0_3.out HB.out) | (with_reducible refine Kd.C_alloc ?_ _) | (with_reducible refine Kd.C_drewN ?_ _) | (with_reducible refine Kd.C_drew ?_))); (case side2 => exact HC0_3.out); rintro e w25 ⟨rfl, hb⟩; refine ⟨_, rfl, ?_⟩; have n0_ := yJ (blk_below (g := gb124) (o := .cells #[.int .i64 a0_0, .string a0_1, .int .i64 a0_2, .slice A0_3 l0_3.length c0_3] 25 (0, 0)) (pk BK124.out) hb); have n1_ := yJ (below_step (pb HB.out) hb); clear BK124; clear HB; have BK124 := n0_; have HB := n1_; clear n0_ n1_; (try clear hb); (try clear hb2); (try clear hk); (try clear hi)))
     go_ret
     exact ⟨by first | rfl | (simp [errW_none, errW_some] <;> rfl) | (simp [*, errW_none, errW_some] <;> rfl), pb HB.out⟩
    ·replace c23 := Bool.eq_false_iff.mpr c23
     subst c23
     have H1 : (some 2) = some r := by rw [if_neg (show ¬ (false = true) by decide)] at H; exact H
     clear H;have H := H1;clear H1
     obtain rfl := Option.some.inj H
     have hcz26_0 : wc.cell? ⟨gb124, 0, none⟩ = some (.int .i64 a0_0) := (yE BK124.out 0).trans rfl
     have hcz26_1 : wc.cell? ⟨gb124, 1, none⟩ = some (.string a0_1) := (yE BK124.out 1).trans rfl
     have hcz26_2 : wc.cell? ⟨gb124, 2, none⟩ = some (.int .i64 a0_2) := (yE BK124.out 2).trans rfl
     have hcz26_3 : wc.cell? ⟨gb124, 3, none⟩ = some (.slice A0_3 l0_3.length c0_3) := (yE BK124.out 3).trans rfl
     have hfz26_0 := yD BK124.out 0
     have hfz26_1 := yD BK124.out 1
     have hfz26_2 := yD BK124.out 2
     have hfz26_3 := yD BK124.out 3
     go_wp2_with (first | ((with_reducible refine gate_callee (f := 22) rfl ?_); refine goesL_ (some 17) rfl rfl Try.func22 (by kernel_rfl) rfl #[.agg #[.int .i64 a0_0, .string a0_1, .int .i64 a0_2, .slice A0_3 l0_3.length c0_3]] rfl (by (try simp only [List.map_toArray, List.map_cons, List.map_nil]); first | done | rfl | (simp only [List.length_drop, List.length_take]; rfl)) ?_; (with_reducible refine (term_small.calls kj1 a0_0 a0_1 a0_2 _ _ l0_3 false _ ?side1 ?side2 A22.out).mono ?_); (case side1 => repeat (first | exact (Kd.C_below HR0_3.out HB.out) | (with_reducible refine Kd.C_alloc ?_ _) | (with_reducible refine Kd.C_drewN ?_ _) | (with_reducible refine Kd.C_drew ?_))); (case side2 => exact HC0_3.out); rintro e w27 ⟨rfl, hb⟩; refine ⟨_, rfl, ?_⟩; have n0_ := yJ (blk_below (g := gb124) (o := .cells #[.int .i64 a0_0, .string a0_1, .int .i64 a0_2, .slice A0_3 l0_3.length c0_3] 25 (0, 0)) (pk BK124.out) hb); have n1_ := yJ (below_step (pb HB.out) hb); clear BK124; clear HB; have BK124 := n0_; have HB := n1_; clear n0_ n1_; (try clear hb); (try clear hb2); (try clear hk); (try clear hi)))
     go_ret
     exact ⟨by first | rfl | (simp [errW_none, errW_some] <;> rfl) | (simp [*, errW_none, errW_some] <;> rfl), pb HB.out⟩
def term_IsObject.f (k : Nat) (a0_0 : Int) (a0_1 : ByteArray) (a0_2 : Int) (l0_3 : List (S25)) : Option (Bool) := (term_object.f a0_0 a0_1 a0_2 l0_3).bind fun t130 => (if t130 = true then ((term_small.f k a0_0 a0_1 a0_2 l0_3).bind fun t131 => (some t131)) else (some false))
set_option maxHeartbeats 8000000 in
set_option maxRecDepth 100000 in
theorem term_IsObject.calls (k : Nat) (a0_0 : Int) (a0_1 : ByteArray) (a0_2 : Int) (A0_3 : Option Addr) (c0_3 : Nat) (l0_3 : List (S25)) (r : Bool) (w : World) (hr0_3 : Kd.C k25 w A0_3 l0_3.length l0_3) (hc0_3 : l0_3.length ≤ c0_3) (h : term_IsObject.f k a0_0 a0_1 a0_2 l0_3 = some r) :
  Calls Try.prog 8 #[.agg #[.int .i64 a0_0, .string a0_1, .int .i64 a0_2, .slice A0_3 l0_3.length c0_3]] w fun e w' => e = .returned (.bool r) ∧ Below w.heap.size w w' := by
 have hu25 := Try.underlying25;have HR0_3 := yJ hr0_3;have HC0_3 := yJ hc0_3;clear hr0_3 hc0_3
 have HB := yJ (Below.refl w.heap.size w)
 have H : ((term_object.f a0_0 a0_1 a0_2 l0_3).bind fun t130 => (if t130 = true then ((term_small.f k a0_0 a0_1 a0_2 l0_3).bind fun t131 => (some t131)) else (some false))) = some r := h
 clear h;replace H := yK H;obtain ⟨t130, A20, H⟩ := H
 replace H : (if t130 = true then ((term_small.f k a0_0 a0_1 a0_2 l0_3).bind fun t131 => (some t131)) else (some false)) = some r := H
 have A2 := yJ A20;clear A20
 by_cases c3 : t130 = true
 ·subst c3
  have H1 : ((term_small.f k a0_0 a0_1 a0_2 l0_3).bind fun t131 => (some t131)) = some r := by rw [if_pos rfl] at H; exact H
  clear H;have H := H1;clear H1;replace H := yK H;obtain ⟨t131, A40, H⟩ := H
  replace H : (some t131) = some r := H
  have A4 := yJ A40;clear A40
  obtain rfl := Option.some.inj H
  go_enter Try.func8, Try.ntmps8
  go_wp2_with (first | ((with_reducible refine gate_dst (N := 1) rfl ?_); refine box_event ?hg (N := 1) ?hd (cs := #[.int .i64 a0_0, .string a0_1, .int .i64 a0_2, .slice A0_3 l0_3.length c0_3]) (t := 25) ?hr ?_; (case hd => rfl); (case hg => rfl); (case hr => first | (go_simp; done) | (go_simp; rfl)); intro gb129 hg w5 hbox hb; have n0_ := yJ (below_step (pb HB.out) hb); have n1_ := yJ (hbox); have n2_ := yJ ((by rw [hg]; exact (below_size (pb HB.out)) : w.heap.size ≤ gb129)); have n3_ := yJ ((by rw [hg]; exact (below_size (pb HB.out)) : w.heap.size ≤ gb129)); clear HB; have HB := n0_; have BK129 := n1_; have GW129 := n2_; have GE129 := n3_; clear n0_ n1_ n2_ n3_; clear hb hbox hg; have hcz6_0 : w5.cell? ⟨gb129, 0, none⟩ = some (.int .i64 a0_0) := (yE BK129.out 0).trans rfl; have hcz6_1 : w5.cell? ⟨gb129, 1, none⟩ = some (.string a0_1) := (yE BK129.out 1).trans rfl; have hcz6_2 : w5.cell? ⟨gb129, 2, none⟩ = some (.int .i64 a0_2) := (yE BK129.out 2).trans rfl; have hcz6_3 : w5.cell? ⟨gb129, 3, none⟩ = some (.slice A0_3 l0_3.length c0_3) := (yE BK129.out 3).trans rfl; have hfz6_0 := yD BK129.out 0; have hfz6_1 := yD BK129.out 1; have hfz6_2 := yD BK129.out 2; have hfz6_3 := yD BK129.out 3) | ((with_reducible refine gate_callee (f := 19) rfl ?_); refine goesL_ (some 4) rfl rfl Try.func19 (by kernel_rfl) rfl #[.agg #[.int .i64 a0_0, .string a0_1, .int .i64 a0_2, .slice A0_3 l0_3.length c0_3]] rfl (by (try simp only [List.map_toArray, List.map_cons, List.map_nil]); first | done | rfl | (simp only [List.length_drop, List.length_take]; rfl)) ?_; (with_reducible refine (term_object.calls a0_0 a0_1 a0_2 _ _ l0_3 true _ ?side1 ?side2 A2.out).mono ?_); (case side1 => repeat (first | exact (Kd.C_below HR0_3.out HB.out) | (with_reducible refine Kd.C_alloc ?_ _) | (with_reducible refine Kd.C_drewN ?_ _) | (with_reducible refine Kd.C_drew ?_))); (case side2 => exact HC0_3.out); rintro e w7 ⟨rfl, hb⟩; refine ⟨_, rfl, ?_⟩; have n0_ := yJ (blk_below (g := gb129) (o := .cells #[.int .i64 a0_0, .string a0_1, .int .i64 a0_2, .slice A0_3 l0_3.length c0_3] 25 (0, 0)) (pk BK129.out) hb); have n1_ := yJ (below_step (pb HB.out) hb); clear BK129; clear HB; have BK129 := n0_; have HB := n1_; clear n0_ n1_; (try clear hb); (try clear hb2); (try clear hk); (try clear hi); have hcz8_0 : w7.cell? ⟨gb129, 0, none⟩ = some (.int .i64 a0_0) := (yE BK129.out 0).trans rfl; have hcz8_1 : w7.cell? ⟨gb129, 1, none⟩ = some (.string a0_1) := (yE BK129.out 1).trans rfl; have hcz8_2 : w7.cell? ⟨gb129, 2, none⟩ = some (.int .i64 a0_2) := (yE BK129.out 2).trans rfl; have hcz8_3 : w7.cell? ⟨gb129, 3, none⟩ = some (.slice A0_3 l0_3.length c0_3) := (yE BK129.out 3).trans rfl; have hfz8_0 := yD BK129.out 0; have hfz8_1 := yD BK129.out 1; have hfz8_2 := yD BK129.out 2; have hfz8_3 := yD BK129.out 3) | (go_at_call 22; (with_reducible refine (term_small.calls k a0_0 a0_1 a0_2 _ _ l0_3 t131 _ ?side1 ?side2 A4.out).mono ?_); (case side1 => repeat (first | exact (Kd.C_below HR0_3.out HB.out) | (with_reducible refine Kd.C_alloc ?_ _) | (with_reducible refine Kd.C_drewN ?_ _) | (with_reducible refine Kd.C_drew ?_))); (case side2 => exact HC0_3.out); rintro e w9 ⟨rfl, hb⟩; have n0_ := yJ (blk_below (g := gb129) (o := .cells #[.int .i64 a0_0, .string a0_1, .int .i64 a0_2, .slice A0_3 l0_3.length c0_3] 25 (0, 0)) (pk BK129.out) hb); have n1_ := yJ (below_step (pb HB.out) hb); clear BK129; clear HB; have BK129 := n0_; have HB := n1_; clear n0_ n1_; (try clear hb); (try clear hb2); (try clear hk); (try clear hi)))
  go_ret
  exact ⟨by first | rfl | (simp [errW_none, errW_some] <;> rfl) | (simp [*, errW_none, errW_some] <;> rfl), pb HB.out⟩
 ·replace c3 := Bool.eq_false_iff.mpr c3
  subst c3
  have H1 : (some false) = some r := by rw [if_neg (show ¬ (false = true) by decide)] at H; exact H
  clear H;have H := H1;clear H1
  obtain rfl := Option.some.inj H
  go_enter Try.func8, Try.ntmps8
  go_wp2_with (first | ((with_reducible refine gate_dst (N := 1) rfl ?_); refine box_event ?hg (N := 1) ?hd (cs := #[.int .i64 a0_0, .string a0_1, .int .i64 a0_2, .slice A0_3 l0_3.length c0_3]) (t := 25) ?hr ?_; (case hd => rfl); (case hg => rfl); (case hr => first | (go_simp; done) | (go_simp; rfl)); intro gb129 hg w10 hbox hb; have n0_ := yJ (below_step (pb HB.out) hb); have n1_ := yJ (hbox); have n2_ := yJ ((by rw [hg]; exact (below_size (pb HB.out)) : w.heap.size ≤ gb129)); have n3_ := yJ ((by rw [hg]; exact (below_size (pb HB.out)) : w.heap.size ≤ gb129)); clear HB; have HB := n0_; have BK129 := n1_; have GW129 := n2_; have GE129 := n3_; clear n0_ n1_ n2_ n3_; clear hb hbox hg; have hcz11_0 : w10.cell? ⟨gb129, 0, none⟩ = some (.int .i64 a0_0) := (yE BK129.out 0).trans rfl; have hcz11_1 : w10.cell? ⟨gb129, 1, none⟩ = some (.string a0_1) := (yE BK129.out 1).trans rfl; have hcz11_2 : w10.cell? ⟨gb129, 2, none⟩ = some (.int .i64 a0_2) := (yE BK129.out 2).trans rfl; have hcz11_3 : w10.cell? ⟨gb129, 3, none⟩ = some (.slice A0_3 l0_3.length c0_3) := (yE BK129.out 3).trans rfl; have hfz11_0 := yD BK129.out 0; have hfz11_1 := yD BK129.out 1; have hfz11_2 := yD BK129.out 2; have hfz11_3 := yD BK129.out 3) | ((with_reducible refine gate_callee (f := 19) rfl ?_); refine goesL_ (some 4) rfl rfl Try.func19 (by kernel_rfl) rfl #[.agg #[.int .i64 a0_0, .string a0_1, .int .i64 a0_2, .slice A0_3 l0_3.length c0_3]] rfl (by (try simp only [List.map_toArray, List.map_cons, List.map_nil]); first | done | rfl | (simp only [List.length_drop, List.length_take]; rfl)) ?_; (with_reducible refine (term_object.calls a0_0 a0_1 a0_2 _ _ l0_3 false _ ?side1 ?side2 A2.out).mono ?_); (case side1 => repeat (first | exact (Kd.C_below HR0_3.out HB.out) | (with_reducible refine Kd.C_alloc ?_ _) | (with_reducible refine Kd.C_drewN ?_ _) | (with_reducible refine Kd.C_drew ?_))); (case side2 => exact HC0_3.out); rintro e w12 ⟨rfl, hb⟩; refine ⟨_, rfl, ?_⟩; have n0_ := yJ (blk_below (g := gb129) (o := .cells #[.int .i64 a0_0, .string a0_1, .int .i64 a0_2, .slice A0_3 l0_3.length c0_3] 25 (0, 0)) (pk BK129.out) hb); have n1_ := yJ (below_step (pb HB.out) hb); clear BK129; clear HB; have BK129 := n0_; have HB := n1_; clear n0_ n1_; (try clear hb); (try clear hb2); (try clear hk); (try clear hi)))
  go_ret
  exact ⟨by first | rfl | (simp [errW_none, errW_some] <;> rfl) | (simp [*, errW_none, errW_some] <;> rfl), pb HB.out⟩
def term_IsType.f (k : Nat) (a0_0 : Int) (a0_1 : ByteArray) (a0_2 : Int) (l0_3 : List (S25)) : Option (Bool) := (term_typed.f k a0_0 a0_1 a0_2 l0_3).bind fun t133 => (if t133 = true then ((term_small.f k a0_0 a0_1 a0_2 l0_3).bind fun t134 => (some t134)) else (some false))
set_option maxHeartbeats 8000000 in
set_option maxRecDepth 100000 in
theorem term_IsType.calls (k : Nat) (a0_0 : Int) (a0_1 : ByteArray) (a0_2 : Int) (A0_3 : Option Addr) (c0_3 : Nat) (l0_3 : List (S25)) (r : Bool) (w : World) (hr0_3 : Kd.C k25 w A0_3 l0_3.length l0_3) (hc0_3 : l0_3.length ≤ c0_3) (h : term_IsType.f k a0_0 a0_1 a0_2 l0_3 = some r) :
  Calls Try.prog 10 #[.agg #[.int .i64 a0_0, .string a0_1, .int .i64 a0_2, .slice A0_3 l0_3.length c0_3]] w fun e w' => e = .returned (.bool r) ∧ Below w.heap.size w w' := by
 have hu25 := Try.underlying25;have HR0_3 := yJ hr0_3;have HC0_3 := yJ hc0_3;clear hr0_3 hc0_3
 have HB := yJ (Below.refl w.heap.size w)
 have H : ((term_typed.f k a0_0 a0_1 a0_2 l0_3).bind fun t133 => (if t133 = true then ((term_small.f k a0_0 a0_1 a0_2 l0_3).bind fun t134 => (some t134)) else (some false))) = some r := h
 clear h;replace H := yK H;obtain ⟨t133, A20, H⟩ := H
 replace H : (if t133 = true then ((term_small.f k a0_0 a0_1 a0_2 l0_3).bind fun t134 => (some t134)) else (some false)) = some r := H
 have A2 := yJ A20;clear A20
 by_cases c3 : t133 = true
 ·subst c3
  have H1 : ((term_small.f k a0_0 a0_1 a0_2 l0_3).bind fun t134 => (some t134)) = some r := by rw [if_pos rfl] at H; exact H
  clear H;have H := H1;clear H1;replace H := yK H;obtain ⟨t134, A40, H⟩ := H
  replace H : (some t134) = some r := H
  have A4 := yJ A40;clear A40
  obtain rfl := Option.some.inj H
  go_enter Try.func10, Try.ntmps10
  go_wp2_with (first | ((with_reducible refine gate_dst (N := 1) rfl ?_); refine box_event ?hg (N := 1) ?hd (cs := #[.int .i64 a0_0, .string a0_1, .int .i64 a0_2, .slice A0_3 l0_3.length c0_3]) (t := 25) ?hr ?_; (case hd => rfl); (case hg => rfl); (case hr => first | (go_simp; done) | (go_simp; rfl)); intro gb132 hg w5 hbox hb; have n0_ := yJ (below_step (pb HB.out) hb); have n1_ := yJ (hbox); have n2_ := yJ ((by rw [hg]; exact (below_size (pb HB.out)) : w.heap.size ≤ gb132)); have n3_ := yJ ((by rw [hg]; exact (below_size (pb HB.out)) : w.heap.size ≤ gb132)); clear HB; have HB := n0_; have BK132 := n1_; have GW132 := n2_; have GE132 := n3_; clear n0_ n1_ n2_ n3_; clear hb hbox hg; have hcz6_0 : w5.cell? ⟨gb132, 0, none⟩ = some (.int .i64 a0_0) := (yE BK132.out 0).trans rfl; have hcz6_1 : w5.cell? ⟨gb132, 1, none⟩ = some (.string a0_1) := (yE BK132.out 1).trans rfl; have hcz6_2 : w5.cell? ⟨gb132, 2, none⟩ = some (.int .i64 a0_2) := (yE BK132.out 2).trans rfl; have hcz6_3 : w5.cell? ⟨gb132, 3, none⟩ = some (.slice A0_3 l0_3.length c0_3) := (yE BK132.out 3).trans rfl; have hfz6_0 := yD BK132.out 0; have hfz6_1 := yD BK132.out 1; have hfz6_2 := yD BK132.out 2; have hfz6_3 := yD BK132.out 3) | ((with_reducible refine gate_callee (f := 20) rfl ?_); refine goesL_ (some 4) rfl rfl Try.func20 (by kernel_rfl) rfl #[.agg #[.int .i64 a0_0, .string a0_1, .int .i64 a0_2, .slice A0_3 l0_3.length c0_3]] rfl (by (try simp only [List.map_toArray, List.map_cons, List.map_nil]); first | done | rfl | (simp only [List.length_drop, List.length_take]; rfl)) ?_; (with_reducible refine (term_typed.calls k a0_0 a0_1 a0_2 _ _ l0_3 true _ ?side1 ?side2 A2.out).mono ?_); (case side1 => repeat (first | exact (Kd.C_below HR0_3.out HB.out) | (with_reducible refine Kd.C_alloc ?_ _) | (with_reducible refine Kd.C_drewN ?_ _) | (with_reducible refine Kd.C_drew ?_))); (case side2 => exact HC0_3.out); rintro e w7 ⟨rfl, hb⟩; refine ⟨_, rfl, ?_⟩; have n0_ := yJ (blk_below (g := gb132) (o := .cells #[.int .i64 a0_0, .string a0_1, .int .i64 a0_2, .slice A0_3 l0_3.length c0_3] 25 (0, 0)) (pk BK132.out) hb); have n1_ := yJ (below_step (pb HB.out) hb); clear BK132; clear HB; have BK132 := n0_; have HB := n1_; clear n0_ n1_; (try clear hb); (try clear hb2); (try clear hk); (try clear hi); have hcz8_0 : w7.cell? ⟨gb132, 0, none⟩ = some (.int .i64 a0_0) := (yE BK132.out 0).trans rfl; have hcz8_1 : w7.cell? ⟨gb132, 1, none⟩ = some (.string a0_1) := (yE BK132.out 1).trans rfl; have hcz8_2 : w7.cell? ⟨gb132, 2, none⟩ = some (.int .i64 a0_2) := (yE BK132.out 2).trans rfl; have hcz8_3 : w7.cell? ⟨gb132, 3, none⟩ = some (.slice A0_3 l0_3.length c0_3) := (yE BK132.out 3).trans rfl; have hfz8_0 := yD BK132.out 0; have hfz8_1 := yD BK132.out 1; have hfz8_2 := yD BK132.out 2; have hfz8_3 := yD BK132.out 3) | (go_at_call 22; (with_reducible refine (term_small.calls k a0_0 a0_1 a0_2 _ _ l0_3 t134 _ ?side1 ?side2 A4.out).mono ?_); (case side1 => repeat (first | exact (Kd.C_below HR0_3.out HB.out) | (with_reducible refine Kd.C_alloc ?_ _) | (with_reducible refine Kd.C_drewN ?_ _) | (with_reducible refine Kd.C_drew ?_))); (case side2 => exact HC0_3.out); rintro e w9 ⟨rfl, hb⟩; have n0_ := yJ (blk_below (g := gb132) (o := .cells #[.int .i64 a0_0, .string a0_1, .int .i64 a0_2, .slice A0_3 l0_3.length c0_3] 25 (0, 0)) (pk BK132.out) hb); have n1_ := yJ (below_step (pb HB.out) hb); clear BK132; clear HB; have BK132 := n0_; have HB := n1_; clear n0_ n1_; (try clear hb); (try clear hb2); (try clear hk); (try clear hi)))
  go_ret
  exact ⟨by first | rfl | (simp [errW_none, errW_some] <;> rfl) | (simp [*, errW_none, errW_some] <;> rfl), pb HB.out⟩
 ·replace c3 := Bool.eq_false_iff.mpr c3
  subst c3
  have H1 : (some false) = some r := by rw [if_neg (show ¬ (false = true) by decide)] at H; exact H
  clear H;have H := H1;clear H1
  obtain rfl := Option.some.inj H
  go_enter Try.func10, Try.ntmps10
  go_wp2_with (first | ((with_reducible refine gate_dst (N := 1) rfl ?_); refine box_event ?hg (N := 1) ?hd (cs := #[.int .i64 a0_0, .string a0_1, .int .i64 a0_2, .slice A0_3 l0_3.length c0_3]) (t := 25) ?hr ?_; (case hd => rfl); (case hg => rfl); (case hr => first | (go_simp; done) | (go_simp; rfl)); intro gb132 hg w10 hbox hb; have n0_ := yJ (below_step (pb HB.out) hb); have n1_ := yJ (hbox); have n2_ := yJ ((by rw [hg]; exact (below_size (pb HB.out)) : w.heap.size ≤ gb132)); have n3_ := yJ ((by rw [hg]; exact (below_size (pb HB.out)) : w.heap.size ≤ gb132)); clear HB; have HB := n0_; have BK132 := n1_; have GW132 := n2_; have GE132 := n3_; clear n0_ n1_ n2_ n3_; clear hb hbox hg; have hcz11_0 : w10.cell? ⟨gb132, 0, none⟩ = some (.int .i64 a0_0) := (yE BK132.out 0).trans rfl; have hcz11_1 : w10.cell? ⟨gb132, 1, none⟩ = some (.string a0_1) := (yE BK132.out 1).trans rfl; have hcz11_2 : w10.cell? ⟨gb132, 2, none⟩ = some (.int .i64 a0_2) := (yE BK132.out 2).trans rfl; have hcz11_3 : w10.cell? ⟨gb132, 3, none⟩ = some (.slice A0_3 l0_3.length c0_3) := (yE BK132.out 3).trans rfl; have hfz11_0 := yD BK132.out 0; have hfz11_1 := yD BK132.out 1; have hfz11_2 := yD BK132.out 2; have hfz11_3 := yD BK132.out 3) | ((with_reducible refine gate_callee (f := 20) rfl ?_); refine goesL_ (some 4) rfl rfl Try.func20 (by kernel_rfl) rfl #[.agg #[.int .i64 a0_0, .string a0_1, .int .i64 a0_2, .slice A0_3 l0_3.length c0_3]] rfl (by (try simp only [List.map_toArray, List.map_cons, List.map_nil]); first | done | rfl | (simp only [List.length_drop, List.length_take]; rfl)) ?_; (with_reducible refine (term_typed.calls k a0_0 a0_1 a0_2 _ _ l0_3 false _ ?side1 ?side2 A2.out).mono ?_); (case side1 => repeat (first | exact (Kd.C_below HR0_3.out HB.out) | (with_reducible refine Kd.C_alloc ?_ _) | (with_reducible refine Kd.C_drewN ?_ _) | (with_reducible refine Kd.C_drew ?_))); (case side2 => exact HC0_3.out); rintro e w12 ⟨rfl, hb⟩; refine ⟨_, rfl, ?_⟩; have n0_ := yJ (blk_below (g := gb132) (o := .cells #[.int .i64 a0_0, .string a0_1, .int .i64 a0_2, .slice A0_3 l0_3.length c0_3] 25 (0, 0)) (pk BK132.out) hb); have n1_ := yJ (below_step (pb HB.out) hb); clear BK132; clear HB; have BK132 := n0_; have HB := n1_; clear n0_ n1_; (try clear hb); (try clear hb2); (try clear hk); (try clear hi)))
  go_ret
  exact ⟨by first | rfl | (simp [errW_none, errW_some] <;> rfl) | (simp [*, errW_none, errW_some] <;> rfl), pb HB.out⟩
end Go.Proofs.Ytpkkoiljombooaa.G
