import Derived.Test.YtpkkoiljombooaaDoorKG0
import Derived.Test.YtpkkoiljombooaaDoorKG5
import Derived.Test.YtpkkoiljombooaaDoorKH2
import Derived.Test.YtpkkoiljombooaaDoorKH3
namespace Go.Proofs.YtpkkoiljombooaaDoor.G
open Go.RowKit Go.Proofs.YtpkkoiljombooaaDoorW.PrintWords Go.Proofs.YtpkkoiljombooaaDoorW.PrintLast Go.Proofs.YtpkkoiljombooaaDoorW.PrintMore
attribute [local go_sem] max2_int min2_int max_two min_two max_three min_three max_four min_four
set_option linter.unusedVariables false
set_option linter.unusedSimpArgs false
mutual
def term_Depth.l0 : Nat → Int → List (S25) → Int → Int → Option (Int)
 | 0, _, _, _, _ => none
 | k + 1, x3, x7, x8, x9 => if x9 < x8 then (if 0 ≤ x9 then (if x9 < (x7.length : Int) then ((term_Depth.f k ((rd_T25 x7 x9).f0) ((rd_T25 x7 x9).f1) ((rd_T25 x7 x9).f2) ((rd_T25 x7 x9).f3)).bind fun t181 => (term_Depth.l0 k (mx x3 t181) x7 x8 (wrap64 (x9 + 1)))) else (none)) else (none)) else (some (wrap64 (x3 + 1)))
def term_Depth.f : Nat → Int → ByteArray → Int → List (S25) → Option (Int)
 | 0, _, _, _, _ => none
 | k + 1, a0_0, a0_1, a0_2, l0_3 => term_Depth.l0 k 0 l0_3 (l0_3.length : Int) 0
end
set_option maxHeartbeats 8000000 in
set_option maxRecDepth 100000 in
theorem term_Depth.calls (k : Nat) : ∀ (a0_0 : Int) (a0_1 : ByteArray) (a0_2 : Int) (A0_3 : Option Addr) (c0_3 : Nat) (l0_3 : List (S25)) (r : Int) (w : World) (hr0_3 : Kd.C k25 w A0_3 l0_3.length l0_3) (hc0_3 : l0_3.length ≤ c0_3) (h : term_Depth.f k a0_0 a0_1 a0_2 l0_3 = some r),
  Calls Tryd.prog 29 #[.agg #[.int .i64 a0_0, .string a0_1, .int .i64 a0_2, .slice A0_3 l0_3.length c0_3]] w fun e w' => e = .returned (.int .i64 r) ∧ Below w.heap.size w w' := by
 induction k using Nat.strongRecOn with
 | _ k ih =>
 intro a0_0 a0_1 a0_2 A0_3 c0_3 l0_3 r w hr0_3 hc0_3 h
 cases k with
 | zero => exact absurd h (by simp [term_Depth.f])
 | succ k =>
 simp only [term_Depth.f] at h
 have hu25 := Tryd.underlying25;have HR0_3 := yJ hr0_3;have HC0_3 := yJ hc0_3;clear hr0_3 hc0_3
 have HB := yJ (Below.refl w.heap.size w)
 have H : (term_Depth.l0 k 0 l0_3 (l0_3.length : Int) 0) = some r := h
 clear h
 have H' := yJ H
 clear H
 go_enter Tryd.func29, Tryd.ntmps29
 go_wp2_with (first | ((with_reducible refine gate_dst (N := 1) rfl ?_); refine box_event ?hg (N := 1) ?hd (cs := #[.int .i64 a0_0, .string a0_1, .int .i64 a0_2, .slice A0_3 l0_3.length c0_3]) (t := 25) ?hr ?_; (case hd => rfl); (case hg => rfl); (case hr => first | (go_simp; done) | (go_simp; rfl)); intro gb178 hg w2 hbox hb; have n0_ := yJ (below_step (pb HB.out) hb); have n1_ := yJ (hbox); have n2_ := yJ ((by rw [hg]; exact (below_size (pb HB.out)) : w.heap.size ≤ gb178)); have n3_ := yJ ((by rw [hg]; exact (below_size (pb HB.out)) : w.heap.size ≤ gb178)); clear HB; have HB := n0_; have BK178 := n1_; have GW178 := n2_; have GE178 := n3_; clear n0_ n1_ n2_ n3_; clear hb hbox hg; have hcz3_0 : w2.cell? ⟨gb178, 0, none⟩ = some (.int .i64 a0_0) := (yE BK178.out 0).trans rfl; have hcz3_1 : w2.cell? ⟨gb178, 1, none⟩ = some (.string a0_1) := (yE BK178.out 1).trans rfl; have hcz3_2 : w2.cell? ⟨gb178, 2, none⟩ = some (.int .i64 a0_2) := (yE BK178.out 2).trans rfl; have hcz3_3 : w2.cell? ⟨gb178, 3, none⟩ = some (.slice A0_3 l0_3.length c0_3) := (yE BK178.out 3).trans rfl; have hfz3_0 := yD BK178.out 0; have hfz3_1 := yD BK178.out 1; have hfz3_2 := yD BK178.out 2; have hfz3_3 := yD BK178.out 3))
 go_loopg [3, 9] k (fun kq v3 v9 w' => ∃ (x3_1 : Int) (x9_1 : Int), v3 = .int .i64 x3_1 ∧ v9 = .int .i64 x9_1 ∧ Aside0 (term_Depth.l0 kq x3_1 l0_3 (l0_3.length : Int) x9_1 = some r) ∧ Aside0 (kq ≤ k) ∧ Aside0 (w'.heap[gb178]? = some (.cells #[.int .i64 a0_0, .string a0_1, .int .i64 a0_2, (.slice A0_3 l0_3.length c0_3)] 25 (0, 0))) ∧ Aside0 (Below w.heap.size w w'))
 case atStart => exact ⟨(0), (0), (by first | rfl | (simp; done) | (simp [*]; done)), (by first | rfl | (simp; done) | (simp [*]; done)), H', ⟨Nat.le_refl _⟩, ⟨pk BK178.out⟩, ⟨pb HB.out⟩⟩
 case round =>
  clear H'
  try clear c2
  try clear p2
  try clear hcz3_0
  try clear hcz3_1
  try clear hcz3_2
  try clear hcz3_3
  try clear hfz3_0
  try clear hfz3_1
  try clear hfz3_2
  try clear hfz3_3
  obtain ⟨x3_1, x9_1, rfl, rfl, HA, HK1, BK178, HB⟩ := hrel
  cases gk with
  | zero => exact absurd HA.out (by simp [term_Depth.l0])
  | succ k1 =>
   have H := HA.out;clear HA
   simp only [term_Depth.l0] at H
   by_cases c4 : x9_1 < (l0_3.length : Int)
   ·rw [if_pos c4] at H
    have c4b0 : decide (x9_1 < (l0_3.length : Int)) = true := decide_eq_true c4
    clear c4
    by_cases c5 : 0 ≤ x9_1
    ·rw [if_pos c5] at H
     have c5b0 : decide (0 ≤ x9_1) = true := decide_eq_true c5
     clear c5
     by_cases c6 : x9_1 < (l0_3.length : Int)
     ·rw [if_pos c6] at H
      have c6b0 : decide (x9_1 < (l0_3.length : Int)) = true := decide_eq_true c6
      clear c6;replace H := yK H;obtain ⟨t181, A70, H⟩ := H
      replace H : (term_Depth.l0 k1 (mx x3_1 t181) l0_3 (l0_3.length : Int) (wrap64 (x9_1 + 1))) = some r := H
      have A7 := yJ A70;clear A70
      obtain ⟨ji8, hji8⟩ : ∃ j_ : Int, (mx x3_1 t181) = j_ := ⟨_, rfl⟩
      replace H : (term_Depth.l0 k1 ji8 l0_3 (l0_3.length : Int) (wrap64 (x9_1 + 1))) = some r := by first | (rw [hji8] at H; exact H) | (simp only [hji8] at H ⊢; exact H)
      (try rw [hji8] at A7)
      have hji8_ : (if x3_1 < t181 then t181 else x3_1) = ji8 := hji8
      have H' := yJ H
      clear H
      have p179 : 0 ≤ (x9_1 : Int) := of_decide_eq_true (by first | (with_reducible assumption) | assumption)
      have q179 : x9_1 < (l0_3.length : Int) := of_decide_eq_true (by first | (with_reducible assumption) | assumption)
      obtain ⟨ad179, A179_3, c179_3, e179, hx179_0, hx179_1, hx179_2, hx179_3, hl179_3, hi179_3⟩ := at_T25 HR0_3.out x9_1 p179 q179
      cases e179
      replace hx179_0 := (HB.out.cell (World.block_lt_of_cell? w _ hx179_0)).trans hx179_0
      replace hx179_1 := (HB.out.cell (World.block_lt_of_cell? w _ hx179_1)).trans hx179_1
      replace hx179_2 := (HB.out.cell (World.block_lt_of_cell? w _ hx179_2)).trans hx179_2
      replace hx179_3 := (HB.out.cell (World.block_lt_of_cell? w _ hx179_3)).trans hx179_3
      have HR179_3 := yJ hi179_3;have HC179_3 := yJ hl179_3;clear hi179_3 hl179_3;replace p179 := eq_true p179;replace q179 := eq_true q179
      go_wp2_with (first | ((with_reducible refine gate_dst (N := 5) rfl ?_); refine box_event ?hg (N := 5) ?hd (cs := #[.int .i64 0, .string (⟨#[]⟩ : ByteArray), .int .i64 0, .slice none 0 0]) (t := 25) ?hr ?_; (case hd => rfl); (case hg => rfl); (case hr => first | (go_simp; done) | (go_simp; rfl)); intro gb180 hg w9 hbox hb; have n0_ := yJ (blk_below (g := gb178) (o := .cells #[.int .i64 a0_0, .string a0_1, .int .i64 a0_2, .slice (some ad179) l0_3.length c0_3] 25 (0, 0)) (pk BK178.out) hb); have n1_ := yJ (below_step (pb HB.out) hb); have n2_ := yJ (hbox); have n3_ := yJ ((by rw [hg]; exact (below_size (pb HB.out)) : w.heap.size ≤ gb180)); have n4_ := yJ ((by rw [hg]; exact (below_size (pb HB.out)) : w.heap.size ≤ gb180)); have n5_ := yJ ((by rw [hg]; exact Nat.ne_of_lt (blk_lt (g := gb178) (o := .cells #[.int .i64 a0_0, .string a0_1, .int .i64 a0_2, .slice (some ad179) l0_3.length c0_3] 25 (0, 0)) (pk BK178.out)) : gb178 ≠ gb180)); have n6_ := yJ ((by rw [hg]; exact Nat.ne_of_gt (blk_lt (g := gb178) (o := .cells #[.int .i64 a0_0, .string a0_1, .int .i64 a0_2, .slice (some ad179) l0_3.length c0_3] 25 (0, 0)) (pk BK178.out)) : gb180 ≠ gb178)); clear BK178; clear HB; have BK178 := n0_; have HB := n1_; have BK180 := n2_; have GW180 := n3_; have GE180 := n4_; have NB178_180 := n5_; have NB180_178 := n6_; clear n0_ n1_ n2_ n3_ n4_ n5_ n6_; clear hb hbox hg; have hnb10 := NB180_178.out; have hnc10 := NB178_180.out; have hcz11_0 : w9.cell? ⟨gb180, 0, none⟩ = some (.int .i64 0) := (yE BK180.out 0).trans rfl; have hcz11_1 : w9.cell? ⟨gb180, 1, none⟩ = some (.string (⟨#[]⟩ : ByteArray)) := (yE BK180.out 1).trans rfl; have hcz11_2 : w9.cell? ⟨gb180, 2, none⟩ = some (.int .i64 0) := (yE BK180.out 2).trans rfl; have hcz11_3 : w9.cell? ⟨gb180, 3, none⟩ = some (.slice none 0 0) := (yE BK180.out 3).trans rfl; have hfz11_0 := yD BK180.out 0; have hfz11_1 := yD BK180.out 1; have hfz11_2 := yD BK180.out 2; have hfz11_3 := yD BK180.out 3) | ((with_reducible refine gate_callee (f := 29) rfl ?_); refine goesL_ (some 15) rfl rfl Tryd.func29 (by kernel_rfl) rfl #[.agg #[.int .i64 ((rd_T25 l0_3 x9_1).f0), .string ((rd_T25 l0_3 x9_1).f1), .int .i64 ((rd_T25 l0_3 x9_1).f2), .slice A179_3 ((rd_T25 l0_3 x9_1).f3).length c179_3]] rfl (by (try simp only [List.map_toArray, List.map_cons, List.map_nil]); first | done | rfl | (simp only [List.length_drop, List.length_take]; rfl)) ?_; (with_reducible refine (ih k1 (by have := HK1.out; omega) ((rd_T25 l0_3 x9_1).f0) ((rd_T25 l0_3 x9_1).f1) ((rd_T25 l0_3 x9_1).f2) _ _ ((rd_T25 l0_3 x9_1).f3) t181 _ ?side1 ?side2 A7.out).mono ?_); (case side1 => exact Kd.C_below HR179_3.out (pb HB.out)); (case side2 => exact HC179_3.out); rintro e w12 ⟨rfl, hb⟩; refine ⟨_, rfl, ?_⟩; have n0_ := yJ (blk_below (g := gb178) (o := .cells #[.int .i64 a0_0, .string a0_1, .int .i64 a0_2, .slice (some ad179) l0_3.length c0_3] 25 (0, 0)) (pk BK178.out) hb); have n1_ := yJ (blk_below (g := gb180) (o := .cells #[.int .i64 ((rd_T25 l0_3 x9_1).f0), .string ((rd_T25 l0_3 x9_1).f1), .int .i64 ((rd_T25 l0_3 x9_1).f2), .slice A179_3 ((rd_T25 l0_3 x9_1).f3).length c179_3] 25 (0, 0)) (by (with_reducible repeat (first | refine yA ?_ _ | refine yB ?_ | refine yC ?_ _)); refine blk_put (cs := #[.int .i64 ((rd_T25 l0_3 x9_1).f0), .string ((rd_T25 l0_3 x9_1).f1), .int .i64 ((rd_T25 l0_3 x9_1).f2), .slice none 0 0]) ?_ 3 _ rfl; (with_reducible repeat (first | refine yA ?_ _ | refine yB ?_ | refine yC ?_ _)); refine blk_put (cs := #[.int .i64 ((rd_T25 l0_3 x9_1).f0), .string ((rd_T25 l0_3 x9_1).f1), .int .i64 0, .slice none 0 0]) ?_ 2 _ rfl; (with_reducible repeat (first | refine yA ?_ _ | refine yB ?_ | refine yC ?_ _)); refine blk_put (cs := #[.int .i64 ((rd_T25 l0_3 x9_1).f0), .string (⟨#[]⟩ : ByteArray), .int .i64 0, .slice none 0 0]) ?_ 1 _ rfl; (with_reducible repeat (first | refine yA ?_ _ | refine yB ?_ | refine yC ?_ _)); refine blk_put (cs := #[.int .i64 0, .string (⟨#[]⟩ : ByteArray), .int .i64 0, .slice none 0 0]) ?_ 0 _ rfl; (with_reducible repeat (first | refine yA ?_ _ | refine yB ?_ | refine yC ?_ _)); exact BK180.out) hb); have n2_ := yJ (below_step (pb HB.out) hb); clear BK178; clear BK180; clear HB; have BK178 := n0_; have BK180 := n1_; have HB := n2_; clear n0_ n1_ n2_; (try clear hb); (try clear hb2); (try clear hk); (try clear hi)))
      go_roundg k1
      case measure => have := HK1.out; omega
      case rel => exact ⟨(ji8), (wrap64 (x9_1 + 1)), (by first | rfl | (simp; done) | (simp only [← hji8] <;> (first | rfl | simp)) | (simp [*]; done)), (by first | rfl | (simp; done) | (simp [*]; done)), H', ⟨by have := HK1.out; omega⟩, ⟨pk BK178.out⟩, ⟨pb HB.out⟩⟩
     ·rw [if_neg c6] at H
      exact absurd H (by simp)
    ·rw [if_neg c5] at H
     exact absurd H (by simp)
   ·rw [if_neg c4] at H
    have c4b0 : decide (x9_1 < (l0_3.length : Int)) = false := decide_eq_false c4
    clear c4
    obtain rfl := Option.some.inj H
    go_wp2
    go_ret
    exact ⟨by first | rfl | (simp [errW_none, errW_some] <;> rfl) | (simp [*, errW_none, errW_some] <;> rfl), pb HB.out⟩
def term_small.f (k : Nat) (a0_0 : Int) (a0_1 : ByteArray) (a0_2 : Int) (l0_3 : List (S25)) : Option (Bool) := (term_Size.f a0_0 a0_1 a0_2 l0_3).bind fun t183 => (if t183 ≤ 4096 then ((term_Depth.f k a0_0 a0_1 a0_2 l0_3).bind fun t184 => (some (decide (t184 ≤ 128)))) else (some false))
set_option maxHeartbeats 8000000 in
set_option maxRecDepth 100000 in
theorem term_small.calls (k : Nat) (a0_0 : Int) (a0_1 : ByteArray) (a0_2 : Int) (A0_3 : Option Addr) (c0_3 : Nat) (l0_3 : List (S25)) (r : Bool) (w : World) (hr0_3 : Kd.C k25 w A0_3 l0_3.length l0_3) (hc0_3 : l0_3.length ≤ c0_3) (h : term_small.f k a0_0 a0_1 a0_2 l0_3 = some r) :
  Calls Tryd.prog 77 #[.agg #[.int .i64 a0_0, .string a0_1, .int .i64 a0_2, .slice A0_3 l0_3.length c0_3]] w fun e w' => e = .returned (.bool r) ∧ Below w.heap.size w w' := by
 have hu25 := Tryd.underlying25;have HR0_3 := yJ hr0_3;have HC0_3 := yJ hc0_3;clear hr0_3 hc0_3
 have HB := yJ (Below.refl w.heap.size w)
 have H : ((term_Size.f a0_0 a0_1 a0_2 l0_3).bind fun t183 => (if t183 ≤ 4096 then ((term_Depth.f k a0_0 a0_1 a0_2 l0_3).bind fun t184 => (some (decide (t184 ≤ 128)))) else (some false))) = some r := h
 clear h;replace H := yK H;obtain ⟨t183, A20, H⟩ := H
 replace H : (if t183 ≤ 4096 then ((term_Depth.f k a0_0 a0_1 a0_2 l0_3).bind fun t184 => (some (decide (t184 ≤ 128)))) else (some false)) = some r := H
 have A2 := yJ A20;clear A20
 by_cases c3 : t183 ≤ 4096
 ·rw [if_pos c3] at H
  have c3b0 : decide (t183 ≤ 4096) = true := decide_eq_true c3
  clear c3;replace H := yK H;obtain ⟨t184, A40, H⟩ := H
  replace H : (some (decide (t184 ≤ 128))) = some r := H
  have A4 := yJ A40;clear A40
  obtain rfl := Option.some.inj H
  go_enter Tryd.func77, Tryd.ntmps77
  go_wp2_with (first | ((with_reducible refine gate_dst (N := 1) rfl ?_); refine box_event ?hg (N := 1) ?hd (cs := #[.int .i64 a0_0, .string a0_1, .int .i64 a0_2, .slice A0_3 l0_3.length c0_3]) (t := 25) ?hr ?_; (case hd => rfl); (case hg => rfl); (case hr => first | (go_simp; done) | (go_simp; rfl)); intro gb182 hg w5 hbox hb; have n0_ := yJ (below_step (pb HB.out) hb); have n1_ := yJ (hbox); have n2_ := yJ ((by rw [hg]; exact (below_size (pb HB.out)) : w.heap.size ≤ gb182)); have n3_ := yJ ((by rw [hg]; exact (below_size (pb HB.out)) : w.heap.size ≤ gb182)); clear HB; have HB := n0_; have BK182 := n1_; have GW182 := n2_; have GE182 := n3_; clear n0_ n1_ n2_ n3_; clear hb hbox hg; have hcz6_0 : w5.cell? ⟨gb182, 0, none⟩ = some (.int .i64 a0_0) := (yE BK182.out 0).trans rfl; have hcz6_1 : w5.cell? ⟨gb182, 1, none⟩ = some (.string a0_1) := (yE BK182.out 1).trans rfl; have hcz6_2 : w5.cell? ⟨gb182, 2, none⟩ = some (.int .i64 a0_2) := (yE BK182.out 2).trans rfl; have hcz6_3 : w5.cell? ⟨gb182, 3, none⟩ = some (.slice A0_3 l0_3.length c0_3) := (yE BK182.out 3).trans rfl; have hfz6_0 := yD BK182.out 0; have hfz6_1 := yD BK182.out 1; have hfz6_2 := yD BK182.out 2; have hfz6_3 := yD BK182.out 3) | ((with_reducible refine gate_callee (f := 27) rfl ?_); refine goesL_ (some 4) rfl rfl Tryd.func27 (by kernel_rfl) rfl #[.agg #[.int .i64 a0_0, .string a0_1, .int .i64 a0_2, .slice A0_3 l0_3.length c0_3]] rfl (by (try simp only [List.map_toArray, List.map_cons, List.map_nil]); first | done | rfl | (simp only [List.length_drop, List.length_take]; rfl)) ?_; (with_reducible refine (term_Size.calls a0_0 a0_1 a0_2 _ _ l0_3 t183 _ ?side1 ?side2 A2.out).mono ?_); (case side1 => repeat (first | exact (Kd.C_below HR0_3.out HB.out) | (with_reducible refine Kd.C_alloc ?_ _) | (with_reducible refine Kd.C_drewN ?_ _) | (with_reducible refine Kd.C_drew ?_))); (case side2 => exact HC0_3.out); rintro e w7 ⟨rfl, hb⟩; refine ⟨_, rfl, ?_⟩; have n0_ := yJ (blk_below (g := gb182) (o := .cells #[.int .i64 a0_0, .string a0_1, .int .i64 a0_2, .slice A0_3 l0_3.length c0_3] 25 (0, 0)) (pk BK182.out) hb); have n1_ := yJ (below_step (pb HB.out) hb); clear BK182; clear HB; have BK182 := n0_; have HB := n1_; clear n0_ n1_; (try clear hb); (try clear hb2); (try clear hk); (try clear hi); have hcz8_0 : w7.cell? ⟨gb182, 0, none⟩ = some (.int .i64 a0_0) := (yE BK182.out 0).trans rfl; have hcz8_1 : w7.cell? ⟨gb182, 1, none⟩ = some (.string a0_1) := (yE BK182.out 1).trans rfl; have hcz8_2 : w7.cell? ⟨gb182, 2, none⟩ = some (.int .i64 a0_2) := (yE BK182.out 2).trans rfl; have hcz8_3 : w7.cell? ⟨gb182, 3, none⟩ = some (.slice A0_3 l0_3.length c0_3) := (yE BK182.out 3).trans rfl; have hfz8_0 := yD BK182.out 0; have hfz8_1 := yD BK182.out 1; have hfz8_2 := yD BK182.out 2; have hfz8_3 := yD BK182.out 3) | (go_at_call 29; (with_reducible refine (term_Depth.calls k a0_0 a0_1 a0_2 _ _ l0_3 t184 _ ?side1 ?side2 A4.out).mono ?_); (case side1 => repeat (first | exact (Kd.C_below HR0_3.out HB.out) | (with_reducible refine Kd.C_alloc ?_ _) | (with_reducible refine Kd.C_drewN ?_ _) | (with_reducible refine Kd.C_drew ?_))); (case side2 => exact HC0_3.out); rintro e w9 ⟨rfl, hb⟩; have n0_ := yJ (blk_below (g := gb182) (o := .cells #[.int .i64 a0_0, .string a0_1, .int .i64 a0_2, .slice A0_3 l0_3.length c0_3] 25 (0, 0)) (pk BK182.out) hb); have n1_ := yJ (below_step (pb HB.out) hb); clear BK182; clear HB; have BK182 := n0_; have HB := n1_; clear n0_ n1_; (try clear hb); (try clear hb2); (try clear hk); (try clear hi)))
  go_ret
  exact ⟨by first | rfl | (simp [errW_none, errW_some] <;> rfl) | (simp [*, errW_none, errW_some] <;> rfl), pb HB.out⟩
 ·rw [if_neg c3] at H
  have c3b0 : decide (t183 ≤ 4096) = false := decide_eq_false c3
  clear c3
  obtain rfl := Option.some.inj H
  go_enter Tryd.func77, Tryd.ntmps77
  go_wp2_with (first | ((with_reducible refine gate_dst (N := 1) rfl ?_); refine box_event ?hg (N := 1) ?hd (cs := #[.int .i64 a0_0, .string a0_1, .int .i64 a0_2, .slice A0_3 l0_3.length c0_3]) (t := 25) ?hr ?_; (case hd => rfl); (case hg => rfl); (case hr => first | (go_simp; done) | (go_simp; rfl)); intro gb182 hg w10 hbox hb; have n0_ := yJ (below_step (pb HB.out) hb); have n1_ := yJ (hbox); have n2_ := yJ ((by rw [hg]; exact (below_size (pb HB.out)) : w.heap.size ≤ gb182)); have n3_ := yJ ((by rw [hg]; exact (below_size (pb HB.out)) : w.heap.size ≤ gb182)); clear HB; have HB := n0_; have BK182 := n1_; have GW182 := n2_; have GE182 := n3_; clear n0_ n1_ n2_ n3_; clear hb hbox hg; have hcz11_0 : w10.cell? ⟨gb182, 0, none⟩ = some (.int .i64 a0_0) := (yE BK182.out 0).trans rfl; have hcz11_1 : w10.cell? ⟨gb182, 1, none⟩ = some (.string a0_1) := (yE BK182.out 1).trans rfl; have hcz11_2 : w10.cell? ⟨gb182, 2, none⟩ = some (.int .i64 a0_2) := (yE BK182.out 2).trans rfl; have hcz11_3 : w10.cell? ⟨gb182, 3, none⟩ = some (.slice A0_3 l0_3.length c0_3) := (yE BK182.out 3).trans rfl; have hfz11_0 := yD BK182.out 0; have hfz11_1 := yD BK182.out 1; have hfz11_2 := yD BK182.out 2; have hfz11_3 := yD BK182.out 3) | ((with_reducible refine gate_callee (f := 27) rfl ?_); refine goesL_ (some 4) rfl rfl Tryd.func27 (by kernel_rfl) rfl #[.agg #[.int .i64 a0_0, .string a0_1, .int .i64 a0_2, .slice A0_3 l0_3.length c0_3]] rfl (by (try simp only [List.map_toArray, List.map_cons, List.map_nil]); first | done | rfl | (simp only [List.length_drop, List.length_take]; rfl)) ?_; (with_reducible refine (term_Size.calls a0_0 a0_1 a0_2 _ _ l0_3 t183 _ ?side1 ?side2 A2.out).mono ?_); (case side1 => repeat (first | exact (Kd.C_below HR0_3.out HB.out) | (with_reducible refine Kd.C_alloc ?_ _) | (with_reducible refine Kd.C_drewN ?_ _) | (with_reducible refine Kd.C_drew ?_))); (case side2 => exact HC0_3.out); rintro e w12 ⟨rfl, hb⟩; refine ⟨_, rfl, ?_⟩; have n0_ := yJ (blk_below (g := gb182) (o := .cells #[.int .i64 a0_0, .string a0_1, .int .i64 a0_2, .slice A0_3 l0_3.length c0_3] 25 (0, 0)) (pk BK182.out) hb); have n1_ := yJ (below_step (pb HB.out) hb); clear BK182; clear HB; have BK182 := n0_; have HB := n1_; clear n0_ n1_; (try clear hb); (try clear hb2); (try clear hk); (try clear hi)))
  go_ret
  exact ⟨by first | rfl | (simp [errW_none, errW_some] <;> rfl) | (simp [*, errW_none, errW_some] <;> rfl), pb HB.out⟩
def term_WellFormed.j0 : Nat → Bool → Int → ByteArray → Int → List (S25) → Option (Int)
 | 0, _, _, _, _, _ => none
 | k + 1, x15, x186000, x186001, x186002, x186003 => if x15 = true then (some 1) else ((term_small.f k x186000 x186001 x186002 x186003).bind fun t189 => (if t189 = true then (some 0) else (some 2)))
def term_WellFormed.f (k : Nat) (a0_0 : Int) (a0_1 : ByteArray) (a0_2 : Int) (l0_3 : List (S25)) : Option (Int) := (term_object.f a0_0 a0_1 a0_2 l0_3).bind fun t186 => (if t186 = true then (term_WellFormed.j0 k false a0_0 a0_1 a0_2 l0_3) else ((term_typed.f k a0_0 a0_1 a0_2 l0_3).bind fun t187 => (if t187 = true then (term_WellFormed.j0 k false a0_0 a0_1 a0_2 l0_3) else ((term_kind.f k a0_0 a0_1 a0_2 l0_3).bind fun t188 => (term_WellFormed.j0 k (!t188) a0_0 a0_1 a0_2 l0_3)))))
set_option maxHeartbeats 8000000 in
set_option maxRecDepth 100000 in
theorem term_WellFormed.calls (k : Nat) (a0_0 : Int) (a0_1 : ByteArray) (a0_2 : Int) (A0_3 : Option Addr) (c0_3 : Nat) (l0_3 : List (S25)) (r : Int) (w : World) (hr0_3 : Kd.C k25 w A0_3 l0_3.length l0_3) (hc0_3 : l0_3.length ≤ c0_3) (h : term_WellFormed.f k a0_0 a0_1 a0_2 l0_3 = some r) :
  Calls Tryd.prog 19 #[.agg #[.int .i64 a0_0, .string a0_1, .int .i64 a0_2, .slice A0_3 l0_3.length c0_3]] w fun e w' => e = .returned (.int .i64 r) ∧ Below w.heap.size w w' := by
 have hu25 := Tryd.underlying25;have HR0_3 := yJ hr0_3;have HC0_3 := yJ hc0_3;clear hr0_3 hc0_3
 have HB := yJ (Below.refl w.heap.size w)
 have H : ((term_object.f a0_0 a0_1 a0_2 l0_3).bind fun t186 => (if t186 = true then (term_WellFormed.j0 k false a0_0 a0_1 a0_2 l0_3) else ((term_typed.f k a0_0 a0_1 a0_2 l0_3).bind fun t187 => (if t187 = true then (term_WellFormed.j0 k false a0_0 a0_1 a0_2 l0_3) else ((term_kind.f k a0_0 a0_1 a0_2 l0_3).bind fun t188 => (term_WellFormed.j0 k (!t188) a0_0 a0_1 a0_2 l0_3)))))) = some r := h
 clear h;have HC2 := yJ H;clear H
 go_enter Tryd.func19, Tryd.ntmps19
 go_upto_region 1 with (first | ((with_reducible refine gate_dst (N := 1) rfl ?_); refine box_event ?hg (N := 1) ?hd (cs := #[.int .i64 a0_0, .string a0_1, .int .i64 a0_2, .slice A0_3 l0_3.length c0_3]) (t := 25) ?hr ?_; (case hd => rfl); (case hg => rfl); (case hr => first | (go_simp; done) | (go_simp; rfl)); intro gb185 hg w3 hbox hb; have n0_ := yJ (below_step (pb HB.out) hb); have n1_ := yJ (hbox); have n2_ := yJ ((by rw [hg]; exact (below_size (pb HB.out)) : w.heap.size ≤ gb185)); have n3_ := yJ ((by rw [hg]; exact (below_size (pb HB.out)) : w.heap.size ≤ gb185)); clear HB; have HB := n0_; have BK185 := n1_; have GW185 := n2_; have GE185 := n3_; clear n0_ n1_ n2_ n3_; clear hb hbox hg))
 (try simp only [Act.put, List.setIfInBounds_toArray, List.set_cons_zero, List.set_cons_succ])
 go_cut [15] (fun v15 wc => ∃ (kq : Nat) (x15_1 : Bool), v15 = .bool x15_1 ∧ Aside0 (term_WellFormed.j0 kq x15_1 a0_0 a0_1 a0_2 l0_3 = some r) ∧ Aside0 (kq ≤ k) ∧ Aside0 (wc.heap[gb185]? = some (.cells #[.int .i64 a0_0, .string a0_1, .int .i64 a0_2, (.slice A0_3 l0_3.length c0_3)] 25 (0, 0))) ∧ Aside0 (Below w.heap.size w wc))
 case first =>
  have H := HC2.out;clear HC2;replace H := yK H;obtain ⟨t186, A40, H⟩ := H
  replace H : (if t186 = true then (term_WellFormed.j0 k false a0_0 a0_1 a0_2 l0_3) else ((term_typed.f k a0_0 a0_1 a0_2 l0_3).bind fun t187 => (if t187 = true then (term_WellFormed.j0 k false a0_0 a0_1 a0_2 l0_3) else ((term_kind.f k a0_0 a0_1 a0_2 l0_3).bind fun t188 => (term_WellFormed.j0 k (!t188) a0_0 a0_1 a0_2 l0_3))))) = some r := H
  have A4 := yJ A40;clear A40
  by_cases c5 : t186 = true
  ·subst c5
   have H1 : (term_WellFormed.j0 k false a0_0 a0_1 a0_2 l0_3) = some r := by rw [if_pos rfl] at H; exact H
   clear H;have H := H1;clear H1
   have H' := yJ H
   clear H
   have hcz6_0 : w3.cell? ⟨gb185, 0, none⟩ = some (.int .i64 a0_0) := (yE BK185.out 0).trans rfl
   have hcz6_1 : w3.cell? ⟨gb185, 1, none⟩ = some (.string a0_1) := (yE BK185.out 1).trans rfl
   have hcz6_2 : w3.cell? ⟨gb185, 2, none⟩ = some (.int .i64 a0_2) := (yE BK185.out 2).trans rfl
   have hcz6_3 : w3.cell? ⟨gb185, 3, none⟩ = some (.slice A0_3 l0_3.length c0_3) := (yE BK185.out 3).trans rfl
   have hfz6_0 := yD BK185.out 0
   have hfz6_1 := yD BK185.out 1
   have hfz6_2 := yD BK185.out 2
   have hfz6_3 := yD BK185.out 3
   go_wp2_with (first | ((with_reducible refine gate_callee (f := 74) rfl ?_); refine goesL_ (some 4) rfl rfl Tryd.func74 (by kernel_rfl) rfl #[.agg #[.int .i64 a0_0, .string a0_1, .int .i64 a0_2, .slice A0_3 l0_3.length c0_3]] rfl (by (try simp only [List.map_toArray, List.map_cons, List.map_nil]); first | done | rfl | (simp only [List.length_drop, List.length_take]; rfl)) ?_; (with_reducible refine (term_object.calls a0_0 a0_1 a0_2 _ _ l0_3 true _ ?side1 ?side2 A4.out).mono ?_); (case side1 => repeat (first | exact (Kd.C_below HR0_3.out HB.out) | (with_reducible refine Kd.C_alloc ?_ _) | (with_reducible refine Kd.C_drewN ?_ _) | (with_reducible refine Kd.C_drew ?_))); (case side2 => exact HC0_3.out); rintro e w7 ⟨rfl, hb⟩; refine ⟨_, rfl, ?_⟩; have n0_ := yJ (blk_below (g := gb185) (o := .cells #[.int .i64 a0_0, .string a0_1, .int .i64 a0_2, .slice A0_3 l0_3.length c0_3] 25 (0, 0)) (pk BK185.out) hb); have n1_ := yJ (below_step (pb HB.out) hb); clear BK185; clear HB; have BK185 := n0_; have HB := n1_; clear n0_ n1_; (try clear hb); (try clear hb2); (try clear hk); (try clear hi)))
   go_meet
   case rel => exact ⟨_, (false), (by first | rfl | (simp; done) | (simp [*]; done)), H', ⟨by first | omega | exact Nat.le_refl _⟩, ⟨pk BK185.out⟩, ⟨pb HB.out⟩⟩
  ·replace c5 := Bool.eq_false_iff.mpr c5
   subst c5
   have H1 : ((term_typed.f k a0_0 a0_1 a0_2 l0_3).bind fun t187 => (if t187 = true then (term_WellFormed.j0 k false a0_0 a0_1 a0_2 l0_3) else ((term_kind.f k a0_0 a0_1 a0_2 l0_3).bind fun t188 => (term_WellFormed.j0 k (!t188) a0_0 a0_1 a0_2 l0_3)))) = some r := by rw [if_neg (show ¬ (false = true) by decide)] at H; exact H
   clear H;have H := H1;clear H1;replace H := yK H;obtain ⟨t187, A80, H⟩ := H
   replace H : (if t187 = true then (term_WellFormed.j0 k false a0_0 a0_1 a0_2 l0_3) else ((term_kind.f k a0_0 a0_1 a0_2 l0_3).bind fun t188 => (term_WellFormed.j0 k (!t188) a0_0 a0_1 a0_2 l0_3))) = some r := H
   have A8 := yJ A80;clear A80
   by_cases c9 : t187 = true
   ·subst c9
    have H1 : (term_WellFormed.j0 k false a0_0 a0_1 a0_2 l0_3) = some r := by rw [if_pos rfl] at H; exact H
    clear H;have H := H1;clear H1
    have H' := yJ H
    clear H
    have hcz10_0 : w3.cell? ⟨gb185, 0, none⟩ = some (.int .i64 a0_0) := (yE BK185.out 0).trans rfl
    have hcz10_1 : w3.cell? ⟨gb185, 1, none⟩ = some (.string a0_1) := (yE BK185.out 1).trans rfl
    have hcz10_2 : w3.cell? ⟨gb185, 2, none⟩ = some (.int .i64 a0_2) := (yE BK185.out 2).trans rfl
    have hcz10_3 : w3.cell? ⟨gb185, 3, none⟩ = some (.slice A0_3 l0_3.length c0_3) := (yE BK185.out 3).trans rfl
    have hfz10_0 := yD BK185.out 0
    have hfz10_1 := yD BK185.out 1
    have hfz10_2 := yD BK185.out 2
    have hfz10_3 := yD BK185.out 3
    go_wp2_with (first | ((with_reducible refine gate_callee (f := 74) rfl ?_); refine goesL_ (some 4) rfl rfl Tryd.func74 (by kernel_rfl) rfl #[.agg #[.int .i64 a0_0, .string a0_1, .int .i64 a0_2, .slice A0_3 l0_3.length c0_3]] rfl (by (try simp only [List.map_toArray, List.map_cons, List.map_nil]); first | done | rfl | (simp only [List.length_drop, List.length_take]; rfl)) ?_; (with_reducible refine (term_object.calls a0_0 a0_1 a0_2 _ _ l0_3 false _ ?side1 ?side2 A4.out).mono ?_); (case side1 => repeat (first | exact (Kd.C_below HR0_3.out HB.out) | (with_reducible refine Kd.C_alloc ?_ _) | (with_reducible refine Kd.C_drewN ?_ _) | (with_reducible refine Kd.C_drew ?_))); (case side2 => exact HC0_3.out); rintro e w11 ⟨rfl, hb⟩; refine ⟨_, rfl, ?_⟩; have n0_ := yJ (blk_below (g := gb185) (o := .cells #[.int .i64 a0_0, .string a0_1, .int .i64 a0_2, .slice A0_3 l0_3.length c0_3] 25 (0, 0)) (pk BK185.out) hb); have n1_ := yJ (below_step (pb HB.out) hb); clear BK185; clear HB; have BK185 := n0_; have HB := n1_; clear n0_ n1_; (try clear hb); (try clear hb2); (try clear hk); (try clear hi); have hcz12_0 : w11.cell? ⟨gb185, 0, none⟩ = some (.int .i64 a0_0) := (yE BK185.out 0).trans rfl; have hcz12_1 : w11.cell? ⟨gb185, 1, none⟩ = some (.string a0_1) := (yE BK185.out 1).trans rfl; have hcz12_2 : w11.cell? ⟨gb185, 2, none⟩ = some (.int .i64 a0_2) := (yE BK185.out 2).trans rfl; have hcz12_3 : w11.cell? ⟨gb185, 3, none⟩ = some (.slice A0_3 l0_3.length c0_3) := (yE BK185.out 3).trans rfl; have hfz12_0 := yD BK185.out 0; have hfz12_1 := yD BK185.out 1; have hfz12_2 := yD BK185.out 2; have hfz12_3 := yD BK185.out 3) | (go_at_call 75; (with_reducible refine (term_typed.calls k a0_0 a0_1 a0_2 _ _ l0_3 true _ ?side1 ?side2 A8.out).mono ?_); (case side1 => repeat (first | exact (Kd.C_below HR0_3.out HB.out) | (with_reducible refine Kd.C_alloc ?_ _) | (with_reducible refine Kd.C_drewN ?_ _) | (with_reducible refine Kd.C_drew ?_))); (case side2 => exact HC0_3.out); rintro e w13 ⟨rfl, hb⟩; have n0_ := yJ (blk_below (g := gb185) (o := .cells #[.int .i64 a0_0, .string a0_1, .int .i64 a0_2, .slice A0_3 l0_3.length c0_3] 25 (0, 0)) (pk BK185.out) hb); have n1_ := yJ (below_step (pb HB.out) hb); clear BK185; clear HB; have BK185 := n0_; have HB := n1_; clear n0_ n1_; (try clear hb); (try clear hb2); (try clear hk); (try clear hi)))
    go_meet
    case rel => exact ⟨_, (false), (by first | rfl | (simp; done) | (simp [*]; done)), H', ⟨by first | omega | exact Nat.le_refl _⟩, ⟨pk BK185.out⟩, ⟨pb HB.out⟩⟩
   ·replace c9 := Bool.eq_false_iff.mpr c9
    subst c9
    have H1 : ((term_kind.f k a0_0 a0_1 a0_2 l0_3).bind fun t188 => (term_WellFormed.j0 k (!t188) a0_0 a0_1 a0_2 l0_3)) = some r := by rw [if_neg (show ¬ (false = true) by decide)] at H; exact H
    clear H;have H := H1;clear H1;replace H := yK H;obtain ⟨t188, A140, H⟩ := H
    replace H : (term_WellFormed.j0 k (!t188) a0_0 a0_1 a0_2 l0_3) = some r := H
    have A14 := yJ A140;clear A140
    have H' := yJ H
    clear H
    have hcz15_0 : w3.cell? ⟨gb185, 0, none⟩ = some (.int .i64 a0_0) := (yE BK185.out 0).trans rfl
    have hcz15_1 : w3.cell? ⟨gb185, 1, none⟩ = some (.string a0_1) := (yE BK185.out 1).trans rfl
    have hcz15_2 : w3.cell? ⟨gb185, 2, none⟩ = some (.int .i64 a0_2) := (yE BK185.out 2).trans rfl
    have hcz15_3 : w3.cell? ⟨gb185, 3, none⟩ = some (.slice A0_3 l0_3.length c0_3) := (yE BK185.out 3).trans rfl
    have hfz15_0 := yD BK185.out 0
    have hfz15_1 := yD BK185.out 1
    have hfz15_2 := yD BK185.out 2
    have hfz15_3 := yD BK185.out 3
    go_wp2_with (first | ((with_reducible refine gate_callee (f := 74) rfl ?_); refine goesL_ (some 4) rfl rfl Tryd.func74 (by kernel_rfl) rfl #[.agg #[.int .i64 a0_0, .string a0_1, .int .i64 a0_2, .slice A0_3 l0_3.length c0_3]] rfl (by (try simp only [List.map_toArray, List.map_cons, List.map_nil]); first | done | rfl | (simp only [List.length_drop, List.length_take]; rfl)) ?_; (with_reducible refine (term_object.calls a0_0 a0_1 a0_2 _ _ l0_3 false _ ?side1 ?side2 A4.out).mono ?_); (case side1 => repeat (first | exact (Kd.C_below HR0_3.out HB.out) | (with_reducible refine Kd.C_alloc ?_ _) | (with_reducible refine Kd.C_drewN ?_ _) | (with_reducible refine Kd.C_drew ?_))); (case side2 => exact HC0_3.out); rintro e w16 ⟨rfl, hb⟩; refine ⟨_, rfl, ?_⟩; have n0_ := yJ (blk_below (g := gb185) (o := .cells #[.int .i64 a0_0, .string a0_1, .int .i64 a0_2, .slice A0_3 l0_3.length c0_3] 25 (0, 0)) (pk BK185.out) hb); have n1_ := yJ (below_step (pb HB.out) hb); clear BK185; clear HB; have BK185 := n0_; have HB := n1_; clear n0_ n1_; (try clear hb); (try clear hb2); (try clear hk); (try clear hi); have hcz17_0 : w16.cell? ⟨gb185, 0, none⟩ = some (.int .i64 a0_0) := (yE BK185.out 0).trans rfl; have hcz17_1 : w16.cell? ⟨gb185, 1, none⟩ = some (.string a0_1) := (yE BK185.out 1).trans rfl; have hcz17_2 : w16.cell? ⟨gb185, 2, none⟩ = some (.int .i64 a0_2) := (yE BK185.out 2).trans rfl; have hcz17_3 : w16.cell? ⟨gb185, 3, none⟩ = some (.slice A0_3 l0_3.length c0_3) := (yE BK185.out 3).trans rfl; have hfz17_0 := yD BK185.out 0; have hfz17_1 := yD BK185.out 1; have hfz17_2 := yD BK185.out 2; have hfz17_3 := yD BK185.out 3) | (go_at_call 75; (with_reducible refine (term_typed.calls k a0_0 a0_1 a0_2 _ _ l0_3 false _ ?side1 ?side2 A8.out).mono ?_); (case side1 => repeat (first | exact (Kd.C_below HR0_3.out HB.out) | (with_reducible refine Kd.C_alloc ?_ _) | (with_reducible refine Kd.C_drewN ?_ _) | (with_reducible refine Kd.C_drew ?_))); (case side2 => exact HC0_3.out); rintro e w18 ⟨rfl, hb⟩; have n0_ := yJ (blk_below (g := gb185) (o := .cells #[.int .i64 a0_0, .string a0_1, .int .i64 a0_2, .slice A0_3 l0_3.length c0_3] 25 (0, 0)) (pk BK185.out) hb); have n1_ := yJ (below_step (pb HB.out) hb); clear BK185; clear HB; have BK185 := n0_; have HB := n1_; clear n0_ n1_; (try clear hb); (try clear hb2); (try clear hk); (try clear hi); have hcz19_0 : w18.cell? ⟨gb185, 0, none⟩ = some (.int .i64 a0_0) := (yE BK185.out 0).trans rfl; have hcz19_1 : w18.cell? ⟨gb185, 1, none⟩ = some (.string a0_1) := (yE BK185.out 1).trans rfl; have hcz19_2 : w18.cell? ⟨gb185, 2, none⟩ = some (.int .i64 a0_2) := (yE BK185.out 2).trans rfl; have hcz19_3 : w18.cell? ⟨gb185, 3, none⟩ = some (.slice A0_3 l0_3.length c0_3) := (yE BK185.out 3).trans rfl; have hfz19_0 := yD BK185.out 0; have hfz19_1 := yD BK185.out 1; have hfz19_2 := yD BK185.out 2; have hfz19_3 := yD BK185.out 3) | (go_at_call 76; (with_reducible refine (term_kind.calls k a0_0 a0_1 a0_2 _ _ l0_3 t188 _ ?side1 ?side2 A14.out).mono ?_); (case side1 => repeat (first | exact (Kd.C_below HR0_3.out HB.out) | (with_reducible refine Kd.C_alloc ?_ _) | (with_reducible refine Kd.C_drewN ?_ _) | (with_reducible refine Kd.C_drew ?_))); (case side2 => exact HC0_3.out); rintro e w20 ⟨rfl, hb⟩; have n0_ := yJ (blk_below (g := gb185) (o := .cells #[.int .i64 a0_0, .string a0_1, .int .i64 a0_2, .slice A0_3 l0_3.length c0_3] 25 (0, 0)) (pk BK185.out) hb); have n1_ := yJ (below_step (pb HB.out) hb); clear BK185; clear HB; have BK185 := n0_; have HB := n1_; clear n0_ n1_; (try clear hb); (try clear hb2); (try clear hk); (try clear hi)))
    go_meet
    case rel => exact ⟨_, (!t188), (by first | rfl | (simp; done) | (simp [*]; done)), H', ⟨by first | omega | exact Nat.le_refl _⟩, ⟨pk BK185.out⟩, ⟨pb HB.out⟩⟩
 case rest =>
  clear HC2
  try clear c1
  try clear p2
  try clear c5
  try clear c7
  try clear c9
  try clear c19
  try clear hcz10_0
  try clear hcz10_1
  try clear hcz10_2
  try clear hcz10_3
  try clear hcz12_0
  try clear hcz12_1
  try clear hcz12_2
  try clear hcz12_3
  try clear hcz15_0
  try clear hcz15_1
  try clear hcz15_2
  try clear hcz15_3
  try clear hcz17_0
  try clear hcz17_1
  try clear hcz17_2
  try clear hcz17_3
  try clear hcz19_0
  try clear hcz19_1
  try clear hcz19_2
  try clear hcz19_3
  try clear hcz6_0
  try clear hcz6_1
  try clear hcz6_2
  try clear hcz6_3
  try clear hfz10_0
  try clear hfz10_1
  try clear hfz10_2
  try clear hfz10_3
  try clear hfz12_0
  try clear hfz12_1
  try clear hfz12_2
  try clear hfz12_3
  try clear hfz15_0
  try clear hfz15_1
  try clear hfz15_2
  try clear hfz15_3
  try clear hfz17_0
  try clear hfz17_1
  try clear hfz17_2
  try clear hfz17_3
  try clear hfz19_0
  try clear hfz19_1
  try clear hfz19_2
  try clear hfz19_3
  try clear hfz6_0
  try clear hfz6_1
  try clear hfz6_2
  try clear hfz6_3
  obtain ⟨kq, x15_1, rfl, HA, HJ1, BK185, HB⟩ := hcut
  cases kq with
  | zero => exact absurd HA.out (by simp [term_WellFormed.j0])
  | succ kj1 =>
   have H := HA.out;clear HA
   simp only [term_WellFormed.j0] at H
   by_cases c21 : x15_1 = true
   ·subst c21
    have H1 : (some 1) = some r := by rw [if_pos rfl] at H; exact H
    clear H;have H := H1;clear H1
    obtain rfl := Option.some.inj H
    go_wp2
    go_ret
    exact ⟨by first | rfl | (simp [errW_none, errW_some] <;> rfl) | (simp [*, errW_none, errW_some] <;> rfl), pb HB.out⟩
   ·replace c21 := Bool.eq_false_iff.mpr c21
    subst c21
    have H1 : ((term_small.f kj1 a0_0 a0_1 a0_2 l0_3).bind fun t189 => (if t189 = true then (some 0) else (some 2))) = some r := by rw [if_neg (show ¬ (false = true) by decide)] at H; exact H
    clear H;have H := H1;clear H1;replace H := yK H;obtain ⟨t189, A220, H⟩ := H
    replace H : (if t189 = true then (some 0) else (some 2)) = some r := H
    have A22 := yJ A220;clear A220
    by_cases c23 : t189 = true
    ·subst c23
     have H1 : (some 0) = some r := by rw [if_pos rfl] at H; exact H
     clear H;have H := H1;clear H1
     obtain rfl := Option.some.inj H
     have hcz24_0 : wc.cell? ⟨gb185, 0, none⟩ = some (.int .i64 a0_0) := (yE BK185.out 0).trans rfl
     have hcz24_1 : wc.cell? ⟨gb185, 1, none⟩ = some (.string a0_1) := (yE BK185.out 1).trans rfl
     have hcz24_2 : wc.cell? ⟨gb185, 2, none⟩ = some (.int .i64 a0_2) := (yE BK185.out 2).trans rfl
     have hcz24_3 : wc.cell? ⟨gb185, 3, none⟩ = some (.slice A0_3 l0_3.length c0_3) := (yE BK185.out 3).trans rfl
     have hfz24_0 := yD BK185.out 0
     have hfz24_1 := yD BK185.out 1
     have hfz24_2 := yD BK185.out 2
     have hfz24_3 := yD BK185.out 3
     go_wp2_with (first | ((with_reducible refine gate_callee (f := 77) rfl ?_); refine goesL_ (some 17) rfl rfl Tryd.func77 (by kernel_rfl) rfl #[.agg #[.int .i64 a0_0, .string a0_1, .int .i64 a0_2, .slice A0_3 l0_3.length c0_3]] rfl (by (try simp only [List.map_toArray, List.map_cons, List.map_nil]); first | done | rfl | (simp only [List.length_drop, List.length_take]; rfl)) ?_; (with_reducible refine (term_small.calls kj1 a0_0 a0_1 a0_2 _ _ l0_3 true _ ?side1 ?side2 A22.out).mono ?_); (case side1 => repeat (first | exact (Kd.C_below HR0_3.out HB.out) | (with_reducible refine Kd.C_alloc ?_ _) | (with_reducible refine Kd.C_drewN ?_ _) | (with_reducible refine Kd.C_drew ?_))); (case side2 => exact HC0_3.out); rintro e w25 ⟨rfl, hb⟩; refine ⟨_, rfl, ?_⟩; have n0_ := yJ (blk_below (g := gb185) (o := .cells #[.int .i64 a0_0, .string a0_1, .int .i64 a0_2, .slice A0_3 l0_3.length c0_3] 25 (0, 0)) (pk BK185.out) hb); have n1_ := yJ (below_step (pb HB.out) hb); clear BK185; clear HB; have BK185 := n0_; have HB := n1_; clear n0_ n1_; (try clear hb); (try clear hb2); (try clear hk); (try clear hi)))
     go_ret
     exact ⟨by first | rfl | (simp [errW_none, errW_some] <;> rfl) | (simp [*, errW_none, errW_some] <;> rfl), pb HB.out⟩
    ·replace c23 := Bool.eq_false_iff.mpr c23
     subst c23
     have H1 : (some 2) = some r := by rw [if_neg (show ¬ (false = true) by decide)] at H; exact H
     clear H;have H := H1;clear H1
     obtain rfl := Option.some.inj H
     have hcz26_0 : wc.cell? ⟨gb185, 0, none⟩ = some (.int .i64 a0_0) := (yE BK185.out 0).trans rfl
     have hcz26_1 : wc.cell? ⟨gb185, 1, none⟩ = some (.string a0_1) := (yE BK185.out 1).trans rfl
     have hcz26_2 : wc.cell? ⟨gb185, 2, none⟩ = some (.int .i64 a0_2) := (yE BK185.out 2).trans rfl
     have hcz26_3 : wc.cell? ⟨gb185, 3, none⟩ = some (.slice A0_3 l0_3.length c0_3) := (yE BK185.out 3).trans rfl
     have hfz26_0 := yD BK185.out 0
     have hfz26_1 := yD BK185.out 1
     have hfz26_2 := yD BK185.out 2
     have hfz26_3 := yD BK185.out 3
     go_wp2_with (first | ((with_reducible refine gate_callee (f := 77) rfl ?_); refine goesL_ (some 17) rfl rfl Tryd.func77 (by kernel_rfl) rfl #[.agg #[.int .i64 a0_0, .string a0_1, .int .i64 a0_2, .slice A0_3 l0_3.length c0_3]] rfl (by (try simp only [List.map_toArray, List.map_cons, List.map_nil]); first | done | rfl | (simp only [List.length_drop, List.length_take]; rfl)) ?_; (with_reducible refine (term_small.calls kj1 a0_0 a0_1 a0_2 _ _ l0_3 false _ ?side1 ?side2 A22.out).mono ?_); (case side1 => repeat (first | exact (Kd.C_below HR0_3.out HB.out) | (with_reducible refine Kd.C_alloc ?_ _) | (with_reducible refine Kd.C_drewN ?_ _) | (with_reducible refine Kd.C_drew ?_))); (case side2 => exact HC0_3.out); rintro e w27 ⟨rfl, hb⟩; refine ⟨_, rfl, ?_⟩; have n0_ := yJ (blk_below (g := gb185) (o := .cells #[.int .i64 a0_0, .string a0_1, .int .i64 a0_2, .slice A0_3 l0_3.length c0_3] 25 (0, 0)) (pk BK185.out) hb); have n1_ := yJ (below_step (pb HB.out) hb); clear BK185; clear HB; have BK185 := n0_; have HB := n1_; clear n0_ n1_; (try clear hb); (try clear hb2); (try clear hk); (try clear hi)))
     go_ret
     exact ⟨by first | rfl | (simp [errW_none, errW_some] <;> rfl) | (simp [*, errW_none, errW_some] <;> rfl), pb HB.out⟩
def r1_reserved.f (a0 : ByteArray) : Option (Bool) := if a0.toList = ([45, 62] : List UInt8) then (some true) else (if a0.toList = ([60, 45] : List UInt8) then (some true) else (if a0.toList = ([61] : List UInt8) then (some true) else (if a0.toList = ([95] : List UInt8) then (some true) else (some (a0.toList == ([116, 121, 112, 101] : List UInt8))))))
def r1_special.f (a0 : Int) : Option (Bool) := if a0 = 40 then (some true) else (if a0 = 41 then (some true) else (if a0 = 91 then (some true) else (if a0 = 93 then (some true) else (if a0 = 123 then (some true) else (if a0 = 125 then (some true) else (if a0 = 58 then (some true) else (some (a0 == 46))))))))
def r1_nameByte.f (a0 : Int) : Option (Bool) := if a0 ≥ 33 then (if a0 ≤ 126 then ((r1_special.f a0).bind fun t190 => (if t190 = true then (some false) else (some (a0 != 37)))) else (some false)) else (some false)
mutual
def r1_IsName.j0 : Nat → ByteArray → Bool → Option (Bool)
 | 0, _, _ => none
 | k + 1, x0, x20 => if x20 = true then (some false) else (r1_IsName.l0 k x0 0)
def r1_IsName.l0 : Nat → ByteArray → Int → Option (Bool)
 | 0, _, _ => none
 | k + 1, x0, x3 => if x3 < (x0.size : Int) then (if 0 ≤ x3 then ((r1_nameByte.f (bt x0 x3)).bind fun t192 => (if t192 = true then (r1_IsName.l0 k x0 (wrap64 (x3 + 1))) else (some false))) else (none)) else (some true)
end
def r1_IsName.f (k : Nat) (a0 : ByteArray) : Option (Bool) := if (a0.size : Int) = 0 then (r1_IsName.j0 k a0 true) else (if (a0.size : Int) > 64 then (r1_IsName.j0 k a0 true) else ((r1_reserved.f a0).bind fun t191 => (if t191 = true then (r1_IsName.j0 k a0 true) else (if 0 < (a0.size : Int) then (r1_IsName.j0 k a0 ((bt a0 0) == 64)) else (none)))))
mutual
def r5_sorts.j1 : Nat → Bool → Bool → Bool → Int → ByteArray → Int → List (S25) → Option (Int)
 | 0, _, _, _, _, _, _, _ => none
 | k + 1, x3, x4, x5, x194000, x194001, x194002, x194003 => if x3 = true then (if x4 = true then (r5_sorts.j2 k (!x5) x194000 x194001 x194002 x194003) else (r5_sorts.j2 k true x194000 x194001 x194002 x194003)) else (r5_sorts.j2 k true x194000 x194001 x194002 x194003)
def r5_sorts.j2 : Nat → Bool → Int → ByteArray → Int → List (S25) → Option (Int)
 | 0, _, _, _, _, _ => none
 | k + 1, x89, x194000, x194001, x194002, x194003 => if x89 = true then (some 0) else (if x194000 = 1 then (some 4) else (if x194000 = 2 then (if 0 < (x194003.length : Int) then ((r5_sorts.f k ((rd_T25 x194003 0).f0) ((rd_T25 x194003 0).f1) ((rd_T25 x194003 0).f2) ((rd_T25 x194003 0).f3)).bind fun t197 => (if (Go.bits .and .i64 t197 2) = 0 then (some 0) else (if 1 < (x194003.length : Int) then ((r5_sorts.f k ((rd_T25 x194003 1).f0) ((rd_T25 x194003 1).f1) ((rd_T25 x194003 1).f2) ((rd_T25 x194003 1).f3)).bind fun t199 => (some (Go.bits .and .i64 t199 6))) else (none)))) else (none)) else (if x194000 = 3 then (if 0 < (x194003.length : Int) then ((r5_sorts.f k ((rd_T25 x194003 0).f0) ((rd_T25 x194003 0).f1) ((rd_T25 x194003 0).f2) ((rd_T25 x194003 0).f3)).bind fun t201 => (some (Go.bits .and .i64 t201 1))) else (none)) else (if x194000 = 4 then (r5_sorts.j3 k (x194000 == 4) x194000 x194001 x194002 x194003) else (if x194000 = 5 then (r5_sorts.j3 k (x194000 == 5) x194000 x194001 x194002 x194003) else (r5_sorts.j3 k (x194000 == 6) x194000 x194001 x194002 x194003))))))
def r5_sorts.j3 : Nat → Bool → Int → ByteArray → Int → List (S25) → Option (Int)
 | 0, _, _, _, _, _ => none
 | k + 1, x117, x194000, x194001, x194002, x194003 => if x117 = true then (r5_sorts.l0 k 0 x194000 x194001 x194002 x194003) else (some 0)
def r5_sorts.l0 : Nat → Int → Int → ByteArray → Int → List (S25) → Option (Int)
 | 0, _, _, _, _, _ => none
 | k + 1, x6, x194000, x194001, x194002, x194003 => if x6 < (x194003.length : Int) then (if 0 ≤ x6 then ((r5_sorts.f k ((rd_T25 x194003 x6).f0) ((rd_T25 x194003 x6).f1) ((rd_T25 x194003 x6).f2) ((rd_T25 x194003 x6).f3)).bind fun t203 => (if (Go.bits .and .i64 t203 1) = 0 then (some 0) else (r5_sorts.l0 k (wrap64 (x6 + 1)) x194000 x194001 x194002 x194003))) else (none)) else (if x194000 = 4 then (some 3) else (some 1))
def r5_sorts.j0 : Nat → Bool → Bool → Bool → Int → Bool → Int → ByteArray → Int → List (S25) → Option (Int)
 | 0, _, _, _, _, _, _, _, _, _ => none
 | k + 1, x3, x4, x5, x18, x19, x194000, x194001, x194002, x194003 => if x19 = true then (if x194001.toList = ([] : List UInt8) then (if (x194003.length : Int) = 2 then (if x194000 = 2 then (r5_sorts.j1 k true x4 true x194000 x194001 x194002 x194003) else (if (x194003.length : Int) = 1 then (r5_sorts.j1 k true x4 (x194000 == 3) x194000 x194001 x194002 x194003) else (r5_sorts.j1 k true x4 false x194000 x194001 x194002 x194003))) else (if (x194003.length : Int) = 1 then (r5_sorts.j1 k true x4 (x194000 == 3) x194000 x194001 x194002 x194003) else (r5_sorts.j1 k true x4 false x194000 x194001 x194002 x194003))) else (if x194001.toList = ([95] : List UInt8) then (if (x194003.length : Int) = 2 then (if x194000 = 2 then (r5_sorts.j1 k true x4 true x194000 x194001 x194002 x194003) else (if (x194003.length : Int) = 1 then (r5_sorts.j1 k true x4 (x194000 == 3) x194000 x194001 x194002 x194003) else (r5_sorts.j1 k true x4 false x194000 x194001 x194002 x194003))) else (if (x194003.length : Int) = 1 then (r5_sorts.j1 k true x4 (x194000 == 3) x194000 x194001 x194002 x194003) else (r5_sorts.j1 k true x4 false x194000 x194001 x194002 x194003))) else ((r1_IsName.f k x194001).bind fun t194 => (if (x194003.length : Int) = 2 then (if x194000 = 2 then (r5_sorts.j1 k t194 x4 true x194000 x194001 x194002 x194003) else (if (x194003.length : Int) = 1 then (r5_sorts.j1 k t194 x4 (x194000 == 3) x194000 x194001 x194002 x194003) else (r5_sorts.j1 k t194 x4 false x194000 x194001 x194002 x194003))) else (if (x194003.length : Int) = 1 then (r5_sorts.j1 k t194 x4 (x194000 == 3) x194000 x194001 x194002 x194003) else (r5_sorts.j1 k t194 x4 false x194000 x194001 x194002 x194003)))))) else (if x18 = 4 then ((r1_IsName.f k x194001).bind fun t195 => (r5_sorts.j1 k t195 x4 true x194000 x194001 x194002 x194003)) else (if x18 = 5 then (if x194002 ≥ 0 then (r5_sorts.j1 k x3 (decide (x194002 ≤ 1048576)) true x194000 x194001 x194002 x194003) else (r5_sorts.j1 k x3 false true x194000 x194001 x194002 x194003)) else (if x18 = 6 then (if x194002 ≥ 0 then (r5_sorts.j1 k x3 (decide (x194002 < 2048)) true x194000 x194001 x194002 x194003) else (r5_sorts.j1 k x3 false true x194000 x194001 x194002 x194003)) else (r5_sorts.j1 k x3 x4 x5 x194000 x194001 x194002 x194003))))
def r5_sorts.f : Nat → Int → ByteArray → Int → List (S25) → Option (Int)
 | 0, _, _, _, _ => none
 | k + 1, a0_0, a0_1, a0_2, l0_3 => if a0_0 = 2 then (r5_sorts.j0 k (a0_1.toList == ([] : List UInt8)) (a0_2 == 0) ((l0_3.length : Int) == 0) a0_0 (a0_0 == 2) a0_0 a0_1 a0_2 l0_3) else (r5_sorts.j0 k (a0_1.toList == ([] : List UInt8)) (a0_2 == 0) ((l0_3.length : Int) == 0) a0_0 (a0_0 == 3) a0_0 a0_1 a0_2 l0_3)
end
mutual
def r5_Size.l0 : Nat → Int → Int → Int → ByteArray → Int → List (S25) → Option (Int)
 | 0, _, _, _, _, _, _ => none
 | k + 1, x3, x4, x205000, x205001, x205002, x205003 => if x4 < (x205003.length : Int) then (if 0 ≤ x4 then ((r5_Size.f k ((rd_T25 x205003 x4).f0) ((rd_T25 x205003 x4).f1) ((rd_T25 x205003 x4).f2) ((rd_T25 x205003 x4).f3)).bind fun t206 => (r5_Size.l0 k (wrap64 (x3 + t206)) (wrap64 (x4 + 1)) x205000 x205001 x205002 x205003)) else (none)) else (some x3)
def r5_Size.f : Nat → Int → ByteArray → Int → List (S25) → Option (Int)
 | 0, _, _, _, _ => none
 | k + 1, a0_0, a0_1, a0_2, l0_3 => r5_Size.l0 k 1 0 a0_0 a0_1 a0_2 l0_3
end
mutual
def r5_Depth.l0 : Nat → Int → Int → Int → ByteArray → Int → List (S25) → Option (Int)
 | 0, _, _, _, _, _, _ => none
 | k + 1, x3, x4, x208000, x208001, x208002, x208003 => if x4 < (x208003.length : Int) then (if 0 ≤ x4 then ((r5_Depth.f k ((rd_T25 x208003 x4).f0) ((rd_T25 x208003 x4).f1) ((rd_T25 x208003 x4).f2) ((rd_T25 x208003 x4).f3)).bind fun t209 => (r5_Depth.l0 k (mx x3 t209) (wrap64 (x4 + 1)) x208000 x208001 x208002 x208003)) else (none)) else (some (wrap64 (x3 + 1)))
def r5_Depth.f : Nat → Int → ByteArray → Int → List (S25) → Option (Int)
 | 0, _, _, _, _ => none
 | k + 1, a0_0, a0_1, a0_2, l0_3 => r5_Depth.l0 k 0 0 a0_0 a0_1 a0_2 l0_3
end
def r5_Small.f (k : Nat) (a0_0 : Int) (a0_1 : ByteArray) (a0_2 : Int) (l0_3 : List (S25)) : Option (Bool) := (r5_Size.f k a0_0 a0_1 a0_2 l0_3).bind fun t211 => (if t211 ≤ 4096 then ((r5_Depth.f k a0_0 a0_1 a0_2 l0_3).bind fun t212 => (some (decide (t212 ≤ 128)))) else (some false))
def r5_WellFormed.f (k : Nat) (a0_0 : Int) (a0_1 : ByteArray) (a0_2 : Int) (l0_3 : List (S25)) : Option (Int) := (r5_sorts.f k a0_0 a0_1 a0_2 l0_3).bind fun t214 => (if t214 = 0 then (some 1) else ((r5_Small.f k a0_0 a0_1 a0_2 l0_3).bind fun t215 => (if t215 = true then (some 0) else (some 2))))
end Go.Proofs.YtpkkoiljombooaaDoor.G
