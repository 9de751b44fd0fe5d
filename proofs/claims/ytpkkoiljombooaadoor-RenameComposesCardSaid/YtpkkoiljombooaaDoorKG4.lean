import Derived.Test.YtpkkoiljombooaaDoorKG0
import Derived.Test.YtpkkoiljombooaaDoorKH1
namespace Go.Proofs.YtpkkoiljombooaaDoor.G
open Go.RowKit Go.Proofs.YtpkkoiljombooaaDoorW.PrintWords Go.Proofs.YtpkkoiljombooaaDoorW.PrintLast Go.Proofs.YtpkkoiljombooaaDoorW.PrintMore
attribute [local go_sem] max2_int min2_int max_two min_two max_three min_three max_four min_four
set_option linter.unusedVariables false
set_option linter.unusedSimpArgs false
def term_bound.f (a0_0 : Int) (a0_1 : ByteArray) (a0_2 : Int) (l0_3 : List (S25)) (a1 : Int) : Option (Bool) := if a0_2 = 0 then (if (l0_3.length : Int) = a1 then (if a0_1.toList = ([] : List UInt8) then (some true) else (if a0_1.toList = ([95] : List UInt8) then (some true) else ((token_IsName.f a0_1).bind fun t164 => (some t164)))) else (some false)) else (some false)
set_option maxHeartbeats 8000000 in
set_option maxRecDepth 100000 in
theorem term_bound.calls (a0_0 : Int) (a0_1 : ByteArray) (a0_2 : Int) (A0_3 : Option Addr) (c0_3 : Nat) (l0_3 : List (S25)) (a1 : Int) (r : Bool) (w : World) (hr0_3 : Kd.C k25 w A0_3 l0_3.length l0_3) (hc0_3 : l0_3.length ≤ c0_3) (h : term_bound.f a0_0 a0_1 a0_2 l0_3 a1 = some r) :
  Calls Tryd.prog 110 #[.agg #[.int .i64 a0_0, .string a0_1, .int .i64 a0_2, .slice A0_3 l0_3.length c0_3], .int .i64 a1] w fun e w' => e = .returned (.bool r) ∧ Below w.heap.size w w' := by
 have hu25 := Tryd.underlying25;have HR0_3 := yJ hr0_3;have HC0_3 := yJ hc0_3;clear hr0_3 hc0_3
 have HB := yJ (Below.refl w.heap.size w)
 have H : (if a0_2 = 0 then (if (l0_3.length : Int) = a1 then (if a0_1.toList = ([] : List UInt8) then (some true) else (if a0_1.toList = ([95] : List UInt8) then (some true) else ((token_IsName.f a0_1).bind fun t164 => (some t164)))) else (some false)) else (some false)) = some r := h
 clear h
 by_cases c3 : a0_2 = 0
 ·rw [if_pos c3] at H
  have c3b0 : (a0_2 == 0) = true := beq_iff_eq.mpr c3
  have c3b1 : (a0_2 != 0) = false := bne_eq_false_iff_eq.mpr c3
  clear c3
  by_cases c4 : (l0_3.length : Int) = a1
  ·rw [if_pos c4] at H
   have c4b0 : ((l0_3.length : Int) == a1) = true := beq_iff_eq.mpr c4
   have c4b1 : ((l0_3.length : Int) != a1) = false := bne_eq_false_iff_eq.mpr c4
   clear c4
   by_cases c5 : a0_1.toList = ([] : List UInt8)
   ·rw [if_pos c5] at H
    have c5b0 : (a0_1.toList == ([] : List UInt8)) = true := beq_iff_eq.mpr c5
    have c5b1 : (a0_1.toList != ([] : List UInt8)) = false := bne_eq_false_iff_eq.mpr c5
    clear c5
    obtain rfl := Option.some.inj H
    go_enter Tryd.func110, Tryd.ntmps110
    go_wp2_with (first | ((with_reducible refine gate_dst (N := 2) rfl ?_); (try (refine gate_guard (by rfl) ?_; dsimp only)); refine box_event ?hg (N := 2) ?hd (cs := #[.int .i64 a0_0, .string a0_1, .int .i64 a0_2, .slice A0_3 l0_3.length c0_3]) (t := 25) ?hr ?_; (case hd => rfl); (case hg => rfl); (case hr => first | (go_simp; done) | (go_simp; rfl)); intro gb163 hg w6 hbox hb; have n0_ := yJ (below_step (pb HB.out) hb); have n1_ := yJ (hbox); have n2_ := yJ ((by rw [hg]; exact (below_size (pb HB.out)) : w.heap.size ≤ gb163)); have n3_ := yJ ((by rw [hg]; exact (below_size (pb HB.out)) : w.heap.size ≤ gb163)); clear HB; have HB := n0_; have BK163 := n1_; have GW163 := n2_; have GE163 := n3_; clear n0_ n1_ n2_ n3_; clear hb hbox hg; have hcz7_0 : w6.cell? ⟨gb163, 0, none⟩ = some (.int .i64 a0_0) := (yE BK163.out 0).trans rfl; have hcz7_1 : w6.cell? ⟨gb163, 1, none⟩ = some (.string a0_1) := (yE BK163.out 1).trans rfl; have hcz7_2 : w6.cell? ⟨gb163, 2, none⟩ = some (.int .i64 a0_2) := (yE BK163.out 2).trans rfl; have hcz7_3 : w6.cell? ⟨gb163, 3, none⟩ = some (.slice A0_3 l0_3.length c0_3) := (yE BK163.out 3).trans rfl; have hfz7_0 := yD BK163.out 0; have hfz7_1 := yD BK163.out 1; have hfz7_2 := yD BK163.out 2; have hfz7_3 := yD BK163.out 3))
    go_ret
    exact ⟨by first | rfl | (simp [errW_none, errW_some] <;> rfl) | (simp [*, errW_none, errW_some] <;> rfl), pb HB.out⟩
   ·rw [if_neg c5] at H
    have c5b0 : (a0_1.toList == ([] : List UInt8)) = false := beq_eq_false_iff_ne.mpr c5
    have c5b1 : (a0_1.toList != ([] : List UInt8)) = true := bne_iff_ne.mpr c5
    by_cases c8 : a0_1.toList = ([95] : List UInt8)
    ·rw [if_pos c8] at H
     have c8b0 : (a0_1.toList == ([95] : List UInt8)) = true := beq_iff_eq.mpr c8
     have c8b1 : (a0_1.toList != ([95] : List UInt8)) = false := bne_eq_false_iff_eq.mpr c8
     clear c8
     obtain rfl := Option.some.inj H
     go_enter Tryd.func110, Tryd.ntmps110
     go_wp2_with (first | ((with_reducible refine gate_dst (N := 2) rfl ?_); (try (refine gate_guard (by rfl) ?_; dsimp only)); refine box_event ?hg (N := 2) ?hd (cs := #[.int .i64 a0_0, .string a0_1, .int .i64 a0_2, .slice A0_3 l0_3.length c0_3]) (t := 25) ?hr ?_; (case hd => rfl); (case hg => rfl); (case hr => first | (go_simp; done) | (go_simp; rfl)); intro gb163 hg w9 hbox hb; have n0_ := yJ (below_step (pb HB.out) hb); have n1_ := yJ (hbox); have n2_ := yJ ((by rw [hg]; exact (below_size (pb HB.out)) : w.heap.size ≤ gb163)); have n3_ := yJ ((by rw [hg]; exact (below_size (pb HB.out)) : w.heap.size ≤ gb163)); clear HB; have HB := n0_; have BK163 := n1_; have GW163 := n2_; have GE163 := n3_; clear n0_ n1_ n2_ n3_; clear hb hbox hg; have hcz10_0 : w9.cell? ⟨gb163, 0, none⟩ = some (.int .i64 a0_0) := (yE BK163.out 0).trans rfl; have hcz10_1 : w9.cell? ⟨gb163, 1, none⟩ = some (.string a0_1) := (yE BK163.out 1).trans rfl; have hcz10_2 : w9.cell? ⟨gb163, 2, none⟩ = some (.int .i64 a0_2) := (yE BK163.out 2).trans rfl; have hcz10_3 : w9.cell? ⟨gb163, 3, none⟩ = some (.slice A0_3 l0_3.length c0_3) := (yE BK163.out 3).trans rfl; have hfz10_0 := yD BK163.out 0; have hfz10_1 := yD BK163.out 1; have hfz10_2 := yD BK163.out 2; have hfz10_3 := yD BK163.out 3))
     go_ret
     exact ⟨by first | rfl | (simp [errW_none, errW_some] <;> rfl) | (simp [*, errW_none, errW_some] <;> rfl), pb HB.out⟩
    ·rw [if_neg c8] at H
     have c8b0 : (a0_1.toList == ([95] : List UInt8)) = false := beq_eq_false_iff_ne.mpr c8
     have c8b1 : (a0_1.toList != ([95] : List UInt8)) = true := bne_iff_ne.mpr c8
     replace H := yK H;obtain ⟨t164, A110, H⟩ := H
     replace H : (some t164) = some r := H
     have A11 := yJ A110;clear A110
     obtain rfl := Option.some.inj H
     go_enter Tryd.func110, Tryd.ntmps110
     go_wp2_with (first | ((with_reducible refine gate_dst (N := 2) rfl ?_); (try (refine gate_guard (by rfl) ?_; dsimp only)); refine box_event ?hg (N := 2) ?hd (cs := #[.int .i64 a0_0, .string a0_1, .int .i64 a0_2, .slice A0_3 l0_3.length c0_3]) (t := 25) ?hr ?_; (case hd => rfl); (case hg => rfl); (case hr => first | (go_simp; done) | (go_simp; rfl)); intro gb163 hg w12 hbox hb; have n0_ := yJ (below_step (pb HB.out) hb); have n1_ := yJ (hbox); have n2_ := yJ ((by rw [hg]; exact (below_size (pb HB.out)) : w.heap.size ≤ gb163)); have n3_ := yJ ((by rw [hg]; exact (below_size (pb HB.out)) : w.heap.size ≤ gb163)); clear HB; have HB := n0_; have BK163 := n1_; have GW163 := n2_; have GE163 := n3_; clear n0_ n1_ n2_ n3_; clear hb hbox hg; have hcz13_0 : w12.cell? ⟨gb163, 0, none⟩ = some (.int .i64 a0_0) := (yE BK163.out 0).trans rfl; have hcz13_1 : w12.cell? ⟨gb163, 1, none⟩ = some (.string a0_1) := (yE BK163.out 1).trans rfl; have hcz13_2 : w12.cell? ⟨gb163, 2, none⟩ = some (.int .i64 a0_2) := (yE BK163.out 2).trans rfl; have hcz13_3 : w12.cell? ⟨gb163, 3, none⟩ = some (.slice A0_3 l0_3.length c0_3) := (yE BK163.out 3).trans rfl; have hfz13_0 := yD BK163.out 0; have hfz13_1 := yD BK163.out 1; have hfz13_2 := yD BK163.out 2; have hfz13_3 := yD BK163.out 3) | (go_at_call 131; (with_reducible refine (token_IsName.calls a0_1 t164 _ A11.out).mono ?_); rintro e w' ⟨rfl, ⟨nd, rfl⟩⟩))
     go_ret
     exact ⟨by first | rfl | (simp [errW_none, errW_some] <;> rfl) | (simp [*, errW_none, errW_some] <;> rfl), pb HB.out⟩
  ·rw [if_neg c4] at H
   have c4b0 : ((l0_3.length : Int) == a1) = false := beq_eq_false_iff_ne.mpr c4
   have c4b1 : ((l0_3.length : Int) != a1) = true := bne_iff_ne.mpr c4
   obtain rfl := Option.some.inj H
   go_enter Tryd.func110, Tryd.ntmps110
   go_wp2_with (first | ((with_reducible refine gate_dst (N := 2) rfl ?_); (try (refine gate_guard (by rfl) ?_; dsimp only)); refine box_event ?hg (N := 2) ?hd (cs := #[.int .i64 a0_0, .string a0_1, .int .i64 a0_2, .slice A0_3 l0_3.length c0_3]) (t := 25) ?hr ?_; (case hd => rfl); (case hg => rfl); (case hr => first | (go_simp; done) | (go_simp; rfl)); intro gb163 hg w14 hbox hb; have n0_ := yJ (below_step (pb HB.out) hb); have n1_ := yJ (hbox); have n2_ := yJ ((by rw [hg]; exact (below_size (pb HB.out)) : w.heap.size ≤ gb163)); have n3_ := yJ ((by rw [hg]; exact (below_size (pb HB.out)) : w.heap.size ≤ gb163)); clear HB; have HB := n0_; have BK163 := n1_; have GW163 := n2_; have GE163 := n3_; clear n0_ n1_ n2_ n3_; clear hb hbox hg; have hcz15_0 : w14.cell? ⟨gb163, 0, none⟩ = some (.int .i64 a0_0) := (yE BK163.out 0).trans rfl; have hcz15_1 : w14.cell? ⟨gb163, 1, none⟩ = some (.string a0_1) := (yE BK163.out 1).trans rfl; have hcz15_2 : w14.cell? ⟨gb163, 2, none⟩ = some (.int .i64 a0_2) := (yE BK163.out 2).trans rfl; have hcz15_3 : w14.cell? ⟨gb163, 3, none⟩ = some (.slice A0_3 l0_3.length c0_3) := (yE BK163.out 3).trans rfl; have hfz15_0 := yD BK163.out 0; have hfz15_1 := yD BK163.out 1; have hfz15_2 := yD BK163.out 2; have hfz15_3 := yD BK163.out 3))
   go_ret
   exact ⟨by first | rfl | (simp [errW_none, errW_some] <;> rfl) | (simp [*, errW_none, errW_some] <;> rfl), pb HB.out⟩
 ·rw [if_neg c3] at H
  have c3b0 : (a0_2 == 0) = false := beq_eq_false_iff_ne.mpr c3
  have c3b1 : (a0_2 != 0) = true := bne_iff_ne.mpr c3
  obtain rfl := Option.some.inj H
  go_enter Tryd.func110, Tryd.ntmps110
  go_wp2_with (first | ((with_reducible refine gate_dst (N := 2) rfl ?_); (try (refine gate_guard (by rfl) ?_; dsimp only)); refine box_event ?hg (N := 2) ?hd (cs := #[.int .i64 a0_0, .string a0_1, .int .i64 a0_2, .slice A0_3 l0_3.length c0_3]) (t := 25) ?hr ?_; (case hd => rfl); (case hg => rfl); (case hr => first | (go_simp; done) | (go_simp; rfl)); intro gb163 hg w16 hbox hb; have n0_ := yJ (below_step (pb HB.out) hb); have n1_ := yJ (hbox); have n2_ := yJ ((by rw [hg]; exact (below_size (pb HB.out)) : w.heap.size ≤ gb163)); have n3_ := yJ ((by rw [hg]; exact (below_size (pb HB.out)) : w.heap.size ≤ gb163)); clear HB; have HB := n0_; have BK163 := n1_; have GW163 := n2_; have GE163 := n3_; clear n0_ n1_ n2_ n3_; clear hb hbox hg; have hcz17_0 : w16.cell? ⟨gb163, 0, none⟩ = some (.int .i64 a0_0) := (yE BK163.out 0).trans rfl; have hcz17_1 : w16.cell? ⟨gb163, 1, none⟩ = some (.string a0_1) := (yE BK163.out 1).trans rfl; have hcz17_2 : w16.cell? ⟨gb163, 2, none⟩ = some (.int .i64 a0_2) := (yE BK163.out 2).trans rfl; have hcz17_3 : w16.cell? ⟨gb163, 3, none⟩ = some (.slice A0_3 l0_3.length c0_3) := (yE BK163.out 3).trans rfl; have hfz17_0 := yD BK163.out 0; have hfz17_1 := yD BK163.out 1; have hfz17_2 := yD BK163.out 2; have hfz17_3 := yD BK163.out 3))
  go_ret
  exact ⟨by first | rfl | (simp [errW_none, errW_some] <;> rfl) | (simp [*, errW_none, errW_some] <;> rfl), pb HB.out⟩
end Go.Proofs.YtpkkoiljombooaaDoor.G
