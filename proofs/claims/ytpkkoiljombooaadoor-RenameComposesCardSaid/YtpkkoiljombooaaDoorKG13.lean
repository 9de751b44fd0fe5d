import Derived.Test.YtpkkoiljombooaaDoorKG0
import Derived.Test.YtpkkoiljombooaaDoorKG1
namespace Go.Proofs.YtpkkoiljombooaaDoor.G
open Go.RowKit Go.Proofs.YtpkkoiljombooaaDoorW.PrintWords Go.Proofs.YtpkkoiljombooaaDoorW.PrintLast Go.Proofs.YtpkkoiljombooaaDoorW.PrintMore
attribute [local go_sem] max2_int min2_int max_two min_two max_three min_three max_four min_four
set_option linter.unusedVariables false
set_option linter.unusedSimpArgs false
mutual
def f5_renamed.j0 : Nat → Int → Bool → Int → ByteArray → Int → List (S25) → Int → ByteArray → Int → Option (Int × ByteArray × Int × (List (S25)))
 | 0, _, _, _, _, _, _, _, _, _ => none
 | k + 1, x1, x21, x304000, x304001, x304002, x304003, x306000, x306001, x306002 => if x21 = true then ((some (([(⟨#[]⟩ : ByteArray), (⟨#[117]⟩ : ByteArray), (⟨#[95]⟩ : ByteArray), (⟨#[78]⟩ : ByteArray)] : List ByteArray) : List ByteArray)).bind fun y306 => ((fm_Cut.f x1 4).bind fun t309 => (if 0 ≤ t309 then (if t309 < (y306.length : Int) then (f5_renamed.j1 k x1 x304000 x304001 x304002 x304003 x306000 (rdOf ByteArray.empty y306 t309) x306002) else (none)) else (none)))) else (f5_renamed.j1 k x1 x304000 x304001 x304002 x304003 x306000 x306001 x306002)
def f5_renamed.j1 : Nat → Int → Int → ByteArray → Int → List (S25) → Int → ByteArray → Int → Option (Int × ByteArray × Int × (List (S25)))
 | 0, _, _, _, _, _, _, _, _ => none
 | k + 1, x1, x304000, x304001, x304002, x304003, x306000, x306001, x306002 => f5_renamed.l0 k x1 0 x304000 x304001 x304002 x304003 x306000 x306001 x306002 ([] : List (S25))
def f5_renamed.l0 : Nat → Int → Int → Int → ByteArray → Int → List (S25) → Int → ByteArray → Int → List (S25) → Option (Int × ByteArray × Int × (List (S25)))
 | 0, _, _, _, _, _, _, _, _, _, _ => none
 | k + 1, x1, x6, x304000, x304001, x304002, x304003, x306000, x306001, x306002, x306003 => if x6 < (x304003.length : Int) then (if 0 ≤ x6 then ((f5_renamed.f k ((rd_T25 x304003 x6).f0) ((rd_T25 x304003 x6).f1) ((rd_T25 x304003 x6).f2) ((rd_T25 x304003 x6).f3) (wrap64 ((wrap64 (Int.tdiv x1 4)) + x6))).bind fun bt312 => (if x306003.length < 2513169434916 then (f5_renamed.l0 k x1 (wrap64 (x6 + 1)) x304000 x304001 x304002 x304003 x306000 x306001 x306002 (x306003 ++ [(⟨bt312.1, bt312.2.1, bt312.2.2.1, bt312.2.2.2⟩ : S25)])) else (none))) else (none)) else (some (x306000, x306001, x306002, x306003))
def f5_renamed.f : Nat → Int → ByteArray → Int → List (S25) → Int → Option (Int × ByteArray × Int × (List (S25)))
 | 0, _, _, _, _, _ => none
 | k + 1, a0_0, a0_1, a0_2, l0_3, a1 => if a0_0 = 2 then (f5_renamed.j0 k a1 true a0_0 a0_1 a0_2 l0_3 a0_0 a0_1 a0_2) else (f5_renamed.j0 k a1 (a0_0 == 3) a0_0 a0_1 a0_2 l0_3 a0_0 a0_1 a0_2)
end
mutual
def r5_Same.j0 : Nat → Bool → Int → ByteArray → Int → List (S25) → Int → ByteArray → Int → List (S25) → Option (Bool)
 | 0, _, _, _, _, _, _, _, _, _ => none
 | k + 1, x26, x322000, x322001, x322002, x322003, x323000, x323001, x323002, x323003 => if x26 = true then (some false) else (if x322000 = 2 then (r5_Same.j1 k false x322000 x322001 x322002 x322003 x323000 x323001 x323002 x323003) else (if x322000 = 3 then (r5_Same.j1 k false x322000 x322001 x322002 x322003 x323000 x323001 x323002 x323003) else (r5_Same.j1 k (x322001.toList != x323001.toList) x322000 x322001 x322002 x322003 x323000 x323001 x323002 x323003)))
def r5_Same.j1 : Nat → Bool → Int → ByteArray → Int → List (S25) → Int → ByteArray → Int → List (S25) → Option (Bool)
 | 0, _, _, _, _, _, _, _, _, _ => none
 | k + 1, x41, x322000, x322001, x322002, x322003, x323000, x323001, x323002, x323003 => if x41 = true then (some false) else (r5_Same.l0 k 0 x322000 x322001 x322002 x322003 x323000 x323001 x323002 x323003)
def r5_Same.l0 : Nat → Int → Int → ByteArray → Int → List (S25) → Int → ByteArray → Int → List (S25) → Option (Bool)
 | 0, _, _, _, _, _, _, _, _, _ => none
 | k + 1, x5, x322000, x322001, x322002, x322003, x323000, x323001, x323002, x323003 => if x5 < (x322003.length : Int) then (if 0 ≤ x5 then (if x5 < (x323003.length : Int) then ((r5_Same.f k ((rd_T25 x322003 x5).f0) ((rd_T25 x322003 x5).f1) ((rd_T25 x322003 x5).f2) ((rd_T25 x322003 x5).f3) ((rd_T25 x323003 x5).f0) ((rd_T25 x323003 x5).f1) ((rd_T25 x323003 x5).f2) ((rd_T25 x323003 x5).f3)).bind fun t325 => (if t325 = true then (r5_Same.l0 k (wrap64 (x5 + 1)) x322000 x322001 x322002 x322003 x323000 x323001 x323002 x323003) else (some false))) else (none)) else (none)) else (some true)
def r5_Same.f : Nat → Int → ByteArray → Int → List (S25) → Int → ByteArray → Int → List (S25) → Option (Bool)
 | 0, _, _, _, _, _, _, _, _ => none
 | k + 1, a0_0, a0_1, a0_2, l0_3, a1_0, a1_1, a1_2, l1_3 => if a0_0 = a1_0 then (if a0_2 = a1_2 then (r5_Same.j0 k ((l0_3.length : Int) != (l1_3.length : Int)) a0_0 a0_1 a0_2 l0_3 a1_0 a1_1 a1_2 l1_3) else (r5_Same.j0 k true a0_0 a0_1 a0_2 l0_3 a1_0 a1_1 a1_2 l1_3)) else (r5_Same.j0 k true a0_0 a0_1 a0_2 l0_3 a1_0 a1_1 a1_2 l1_3)
end
def r5_Same.T8 : Bool × List (List Nat × List Nat) := (true, [([], []), ([0], [0]), ([], []), ([1, 2], [1, 2]), ([3], [3]), ([], []), ([5], [5]), ([], []), ([6, 7], [6, 7]), ([8], [8]), ([4, 9], [4, 9]), ([10], [10])])
def r5_Same.B8 : List Nat := [0, 1, 0, 7, 15, 0, 32, 0, 224, 480, 1023, 2047]
theorem r5_Same.tab8 : rtab .any (opsOf Tryd.f44 8) = r5_Same.T8 := by kernel_rfl
theorem r5_Same.bits8 : waitsOk r5_Same.T8.2 r5_Same.B8 = true := by kernel_rfl
set_option maxHeartbeats 8000000 in
set_option maxRecDepth 100000 in
theorem r5_Same.calls (k : Nat) : ∀ (a0_0 : Int) (a0_1 : ByteArray) (a0_2 : Int) (A0_3 : Option Addr) (c0_3 : Nat) (l0_3 : List (S25)) (a1_0 : Int) (a1_1 : ByteArray) (a1_2 : Int) (A1_3 : Option Addr) (c1_3 : Nat) (l1_3 : List (S25)) (r : Bool) (w : World) (hr0_3 : Kd.C k25 w A0_3 l0_3.length l0_3) (hc0_3 : l0_3.length ≤ c0_3) (hr1_3 : Kd.C k25 w A1_3 l1_3.length l1_3) (hc1_3 : l1_3.length ≤ c1_3) (h : r5_Same.f k a0_0 a0_1 a0_2 l0_3 a1_0 a1_1 a1_2 l1_3 = some r),
  Calls Tryd.prog 44 #[.agg #[.int .i64 a0_0, .string a0_1, .int .i64 a0_2, .slice A0_3 l0_3.length c0_3], .agg #[.int .i64 a1_0, .string a1_1, .int .i64 a1_2, .slice A1_3 l1_3.length c1_3]] w fun e w' => e = .returned (.bool r) ∧ Below w.heap.size w w' := by
 induction k using Nat.strongRecOn with
 | _ k ih =>
 intro a0_0 a0_1 a0_2 A0_3 c0_3 l0_3 a1_0 a1_1 a1_2 A1_3 c1_3 l1_3 r w hr0_3 hc0_3 hr1_3 hc1_3 h
 cases k with
 | zero => exact absurd h (by simp [r5_Same.f])
 | succ k =>
 simp only [r5_Same.f] at h
 have hu25 := Tryd.underlying25;have HR0_3 := yJ hr0_3;have HC0_3 := yJ hc0_3;clear hr0_3 hc0_3;have HR1_3 := yJ hr1_3;have HC1_3 := yJ hc1_3;clear hr1_3 hc1_3
 have HB := yJ (Below.refl w.heap.size w)
 have H : (if a0_0 = a1_0 then (if a0_2 = a1_2 then (r5_Same.j0 k ((l0_3.length : Int) != (l1_3.length : Int)) a0_0 a0_1 a0_2 l0_3 a1_0 a1_1 a1_2 l1_3) else (r5_Same.j0 k true a0_0 a0_1 a0_2 l0_3 a1_0 a1_1 a1_2 l1_3)) else (r5_Same.j0 k true a0_0 a0_1 a0_2 l0_3 a1_0 a1_1 a1_2 l1_3)) = some r := h
 clear h;have HC3 := yJ H;clear H
 go_enter Tryd.func44, Tryd.ntmps44
 go_upto_region 1 with (first | ((with_reducible refine gate_dst (N := 2) rfl ?_); (try (refine gate_guard (by rfl) ?_; dsimp only)); refine box_event ?hg (N := 2) ?hd (cs := #[.int .i64 a0_0, .string a0_1, .int .i64 a0_2, .slice A0_3 l0_3.length c0_3]) (t := 25) ?hr ?_; (case hd => rfl); (case hg => rfl); (case hr => first | (go_simp; done) | (go_simp; rfl)); intro gb321 hg w4 hbox hb; have n0_ := yJ (below_step (pb HB.out) hb); have n1_ := yJ (hbox); have n2_ := yJ ((by rw [hg]; exact (below_size (pb HB.out)) : w.heap.size ≤ gb321)); have n3_ := yJ ((by rw [hg]; exact (below_size (pb HB.out)) : w.heap.size ≤ gb321)); clear HB; have HB := n0_; have BK321 := n1_; have GW321 := n2_; have GE321 := n3_; clear n0_ n1_ n2_ n3_; clear hb hbox hg) | ((with_reducible refine gate_dst (N := 3) rfl ?_); (try (refine gate_guard (by rfl) ?_; dsimp only)); refine box_event ?hg (N := 3) ?hd (cs := #[.int .i64 a1_0, .string a1_1, .int .i64 a1_2, .slice A1_3 l1_3.length c1_3]) (t := 25) ?hr ?_; (case hd => rfl); (case hg => rfl); (case hr => first | (go_simp; done) | (go_simp; rfl)); intro gb322 hg w5 hbox hb; have n0_ := yJ (blk_below (g := gb321) (o := .cells #[.int .i64 a0_0, .string a0_1, .int .i64 a0_2, .slice A0_3 l0_3.length c0_3] 25 (0, 0)) (pk BK321.out) hb); have n1_ := yJ (below_step (pb HB.out) hb); have n2_ := yJ (hbox); have n3_ := yJ ((by rw [hg]; exact (below_size (pb HB.out)) : w.heap.size ≤ gb322)); have n4_ := yJ ((by rw [hg]; exact (below_size (pb HB.out)) : w.heap.size ≤ gb322)); have n5_ := yJ ((by rw [hg]; exact Nat.ne_of_lt (blk_lt (g := gb321) (o := .cells #[.int .i64 a0_0, .string a0_1, .int .i64 a0_2, .slice A0_3 l0_3.length c0_3] 25 (0, 0)) (pk BK321.out)) : gb321 ≠ gb322)); have n6_ := yJ ((by rw [hg]; exact Nat.ne_of_gt (blk_lt (g := gb321) (o := .cells #[.int .i64 a0_0, .string a0_1, .int .i64 a0_2, .slice A0_3 l0_3.length c0_3] 25 (0, 0)) (pk BK321.out)) : gb322 ≠ gb321)); clear BK321; clear HB; have BK321 := n0_; have HB := n1_; have BK322 := n2_; have GW322 := n3_; have GE322 := n4_; have NB321_322 := n5_; have NB322_321 := n6_; clear n0_ n1_ n2_ n3_ n4_ n5_ n6_; clear hb hbox hg))
 (try simp only [Act.put, List.setIfInBounds_toArray, List.set_cons_zero, List.set_cons_succ])
 go_cut [26] (fun v26 wc => ∃ (kq : Nat) (x26_2 : Bool), v26 = .bool x26_2 ∧ Aside0 (r5_Same.j0 kq x26_2 a0_0 a0_1 a0_2 l0_3 a1_0 a1_1 a1_2 l1_3 = some r) ∧ Aside0 (kq ≤ k) ∧ Aside0 (wc.heap[gb321]? = some (.cells #[.int .i64 a0_0, .string a0_1, .int .i64 a0_2, (.slice A0_3 l0_3.length c0_3)] 25 (0, 0))) ∧ Aside0 (wc.heap[gb322]? = some (.cells #[.int .i64 a1_0, .string a1_1, .int .i64 a1_2, (.slice A1_3 l1_3.length c1_3)] 25 (0, 0))) ∧ Aside0 (Below w.heap.size w wc))
 case first =>
  have H := HC3.out;clear HC3
  by_cases c6 : a0_0 = a1_0
  ·rw [if_pos c6] at H
   have c6b0 : (a0_0 == a1_0) = true := beq_iff_eq.mpr c6
   have c6b1 : (a0_0 != a1_0) = false := bne_eq_false_iff_eq.mpr c6
   clear c6
   (first | rw [c6b0] | (simp only [i64_w, i32_w]; rw [c6b0]) | skip)
   by_cases c7 : a0_2 = a1_2
   ·rw [if_pos c7] at H
    have c7b0 : (a0_2 == a1_2) = true := beq_iff_eq.mpr c7
    have c7b1 : (a0_2 != a1_2) = false := bne_eq_false_iff_eq.mpr c7
    clear c7
    have H' := yJ H
    clear H;have hnb8 := NB321_322.out;have hnc8 := NB322_321.out
    have hcz9_0 : w5.cell? ⟨gb321, 0, none⟩ = some (.int .i64 a0_0) := (yE BK321.out 0).trans rfl
    have hcz9_1 : w5.cell? ⟨gb321, 1, none⟩ = some (.string a0_1) := (yE BK321.out 1).trans rfl
    have hcz9_2 : w5.cell? ⟨gb321, 2, none⟩ = some (.int .i64 a0_2) := (yE BK321.out 2).trans rfl
    have hcz9_3 : w5.cell? ⟨gb321, 3, none⟩ = some (.slice A0_3 l0_3.length c0_3) := (yE BK321.out 3).trans rfl
    have hfz9_0 := yD BK321.out 0
    have hfz9_1 := yD BK321.out 1
    have hfz9_2 := yD BK321.out 2
    have hfz9_3 := yD BK321.out 3
    have hcz10_0 : w5.cell? ⟨gb322, 0, none⟩ = some (.int .i64 a1_0) := (yE BK322.out 0).trans rfl
    have hcz10_1 : w5.cell? ⟨gb322, 1, none⟩ = some (.string a1_1) := (yE BK322.out 1).trans rfl
    have hcz10_2 : w5.cell? ⟨gb322, 2, none⟩ = some (.int .i64 a1_2) := (yE BK322.out 2).trans rfl
    have hcz10_3 : w5.cell? ⟨gb322, 3, none⟩ = some (.slice A1_3 l1_3.length c1_3) := (yE BK322.out 3).trans rfl
    have hfz10_0 := yD BK322.out 0
    have hfz10_1 := yD BK322.out 1
    have hfz10_2 := yD BK322.out 2
    have hfz10_3 := yD BK322.out 3
    go_wp2
    go_meet
    case rel => exact ⟨_, (((l0_3.length : Int) != (l1_3.length : Int))), (by first | rfl | (simp; done) | (simp [*]; done)), H', ⟨by first | omega | exact Nat.le_refl _⟩, ⟨pk BK321.out⟩, ⟨pk BK322.out⟩, ⟨pb HB.out⟩⟩
   ·rw [if_neg c7] at H
    have c7b0 : (a0_2 == a1_2) = false := beq_eq_false_iff_ne.mpr c7
    have c7b1 : (a0_2 != a1_2) = true := bne_iff_ne.mpr c7
    have H' := yJ H
    clear H;have hnb11 := NB321_322.out;have hnc11 := NB322_321.out
    have hcz12_0 : w5.cell? ⟨gb321, 0, none⟩ = some (.int .i64 a0_0) := (yE BK321.out 0).trans rfl
    have hcz12_1 : w5.cell? ⟨gb321, 1, none⟩ = some (.string a0_1) := (yE BK321.out 1).trans rfl
    have hcz12_2 : w5.cell? ⟨gb321, 2, none⟩ = some (.int .i64 a0_2) := (yE BK321.out 2).trans rfl
    have hcz12_3 : w5.cell? ⟨gb321, 3, none⟩ = some (.slice A0_3 l0_3.length c0_3) := (yE BK321.out 3).trans rfl
    have hfz12_0 := yD BK321.out 0
    have hfz12_1 := yD BK321.out 1
    have hfz12_2 := yD BK321.out 2
    have hfz12_3 := yD BK321.out 3
    have hcz13_0 : w5.cell? ⟨gb322, 0, none⟩ = some (.int .i64 a1_0) := (yE BK322.out 0).trans rfl
    have hcz13_1 : w5.cell? ⟨gb322, 1, none⟩ = some (.string a1_1) := (yE BK322.out 1).trans rfl
    have hcz13_2 : w5.cell? ⟨gb322, 2, none⟩ = some (.int .i64 a1_2) := (yE BK322.out 2).trans rfl
    have hcz13_3 : w5.cell? ⟨gb322, 3, none⟩ = some (.slice A1_3 l1_3.length c1_3) := (yE BK322.out 3).trans rfl
    have hfz13_0 := yD BK322.out 0
    have hfz13_1 := yD BK322.out 1
    have hfz13_2 := yD BK322.out 2
    have hfz13_3 := yD BK322.out 3
    go_wp2
    go_meet
    case rel => exact ⟨_, (true), (by first | rfl | (simp; done) | (simp [*]; done)), H', ⟨by first | omega | exact Nat.le_refl _⟩, ⟨pk BK321.out⟩, ⟨pk BK322.out⟩, ⟨pb HB.out⟩⟩
  ·rw [if_neg c6] at H
   have c6b0 : (a0_0 == a1_0) = false := beq_eq_false_iff_ne.mpr c6
   have c6b1 : (a0_0 != a1_0) = true := bne_iff_ne.mpr c6
   (first | rw [c6b0] | (simp only [i64_w, i32_w]; rw [c6b0]) | skip)
   have H' := yJ H
   clear H;have hnb14 := NB321_322.out;have hnc14 := NB322_321.out
   have hcz15_0 : w5.cell? ⟨gb321, 0, none⟩ = some (.int .i64 a0_0) := (yE BK321.out 0).trans rfl
   have hcz15_1 : w5.cell? ⟨gb321, 1, none⟩ = some (.string a0_1) := (yE BK321.out 1).trans rfl
   have hcz15_2 : w5.cell? ⟨gb321, 2, none⟩ = some (.int .i64 a0_2) := (yE BK321.out 2).trans rfl
   have hcz15_3 : w5.cell? ⟨gb321, 3, none⟩ = some (.slice A0_3 l0_3.length c0_3) := (yE BK321.out 3).trans rfl
   have hfz15_0 := yD BK321.out 0
   have hfz15_1 := yD BK321.out 1
   have hfz15_2 := yD BK321.out 2
   have hfz15_3 := yD BK321.out 3
   have hcz16_0 : w5.cell? ⟨gb322, 0, none⟩ = some (.int .i64 a1_0) := (yE BK322.out 0).trans rfl
   have hcz16_1 : w5.cell? ⟨gb322, 1, none⟩ = some (.string a1_1) := (yE BK322.out 1).trans rfl
   have hcz16_2 : w5.cell? ⟨gb322, 2, none⟩ = some (.int .i64 a1_2) := (yE BK322.out 2).trans rfl
   have hcz16_3 : w5.cell? ⟨gb322, 3, none⟩ = some (.slice A1_3 l1_3.length c1_3) := (yE BK322.out 3).trans rfl
   have hfz16_0 := yD BK322.out 0
   have hfz16_1 := yD BK322.out 1
   have hfz16_2 := yD BK322.out 2
   have hfz16_3 := yD BK322.out 3
   go_wp2
   go_meet
   case rel => exact ⟨_, (true), (by first | rfl | (simp; done) | (simp [*]; done)), H', ⟨by first | omega | exact Nat.le_refl _⟩, ⟨pk BK321.out⟩, ⟨pk BK322.out⟩, ⟨pb HB.out⟩⟩
 case rest =>
  clear HC3
  try clear c1
  try clear p2
  try clear c4
  try clear c6
  try clear c6b0
  try clear c6b1
  try clear c7
  try clear c7b0
  try clear c7b1
  try clear c8
  try clear c11
  try clear c14
  try clear hcz10_0
  try clear hcz10_1
  try clear hcz10_2
  try clear hcz10_3
  try clear hcz12_0
  try clear hcz12_1
  try clear hcz12_2
  try clear hcz12_3
  try clear hcz13_0
  try clear hcz13_1
  try clear hcz13_2
  try clear hcz13_3
  try clear hcz15_0
  try clear hcz15_1
  try clear hcz15_2
  try clear hcz15_3
  try clear hcz16_0
  try clear hcz16_1
  try clear hcz16_2
  try clear hcz16_3
  try clear hcz9_0
  try clear hcz9_1
  try clear hcz9_2
  try clear hcz9_3
  try clear hfz10_0
  try clear hfz10_1
  try clear hfz10_2
  try clear hfz10_3
  try clear hfz12_0
  try clear hfz12_1
  try clear hfz12_2
  try clear hfz12_3
  try clear hfz13_0
  try clear hfz13_1
  try clear hfz13_2
  try clear hfz13_3
  try clear hfz15_0
  try clear hfz15_1
  try clear hfz15_2
  try clear hfz15_3
  try clear hfz16_0
  try clear hfz16_1
  try clear hfz16_2
  try clear hfz16_3
  try clear hfz9_0
  try clear hfz9_1
  try clear hfz9_2
  try clear hfz9_3
  obtain ⟨kq, x26_2, rfl, HA, HJ2, BK321, BK322, HB⟩ := hcut
  cases kq with
  | zero => exact absurd HA.out (by simp [r5_Same.j0])
  | succ kj2 =>
   have H := HA.out;clear HA
   simp only [r5_Same.j0] at H
   by_cases c17 : x26_2 = true
   ·subst c17
    have H1 : (some false) = some r := by rw [if_pos rfl] at H; exact H
    clear H;have H := H1;clear H1
    obtain rfl := Option.some.inj H
    go_wp2
    go_ret
    exact ⟨by first | rfl | (simp [errW_none, errW_some] <;> rfl) | (simp [*, errW_none, errW_some] <;> rfl), pb HB.out⟩
   ·replace c17 := Bool.eq_false_iff.mpr c17
    subst c17
    have H1 : (if a0_0 = 2 then (r5_Same.j1 kj2 false a0_0 a0_1 a0_2 l0_3 a1_0 a1_1 a1_2 l1_3) else (if a0_0 = 3 then (r5_Same.j1 kj2 false a0_0 a0_1 a0_2 l0_3 a1_0 a1_1 a1_2 l1_3) else (r5_Same.j1 kj2 (a0_1.toList != a1_1.toList) a0_0 a0_1 a0_2 l0_3 a1_0 a1_1 a1_2 l1_3))) = some r := by rw [if_neg (show ¬ (false = true) by decide)] at H; exact H
    clear H;have H := H1;clear H1;have HC18 := yJ H;clear H
    go_upto_region 3 with (fail)
    go_cut [41] (fun v41 wc => ∃ (kq : Nat) (x41_17 : Bool), v41 = .bool x41_17 ∧ Aside0 (r5_Same.j1 kq x41_17 a0_0 a0_1 a0_2 l0_3 a1_0 a1_1 a1_2 l1_3 = some r) ∧ Aside0 (kq ≤ kj2) ∧ Aside0 (wc.heap[gb321]? = some (.cells #[.int .i64 a0_0, .string a0_1, .int .i64 a0_2, (.slice A0_3 l0_3.length c0_3)] 25 (0, 0))) ∧ Aside0 (wc.heap[gb322]? = some (.cells #[.int .i64 a1_0, .string a1_1, .int .i64 a1_2, (.slice A1_3 l1_3.length c1_3)] 25 (0, 0))) ∧ Aside0 (Below w.heap.size w wc))
    case first =>
     have H := HC18.out;clear HC18
     by_cases c19 : a0_0 = 2
     ·rw [if_pos c19] at H
      have c19b0 : (a0_0 == 2) = true := beq_iff_eq.mpr c19
      have c19b1 : (a0_0 != 2) = false := bne_eq_false_iff_eq.mpr c19
      clear c19
      (first | rw [c19b0] | (simp only [i64_w, i32_w]; rw [c19b0]) | skip)
      have H' := yJ H
      clear H;have hnb20 := NB321_322.out;have hnc20 := NB322_321.out
      have hcz21_0 : wc.cell? ⟨gb321, 0, none⟩ = some (.int .i64 a0_0) := (yE BK321.out 0).trans rfl
      have hcz21_1 : wc.cell? ⟨gb321, 1, none⟩ = some (.string a0_1) := (yE BK321.out 1).trans rfl
      have hcz21_2 : wc.cell? ⟨gb321, 2, none⟩ = some (.int .i64 a0_2) := (yE BK321.out 2).trans rfl
      have hcz21_3 : wc.cell? ⟨gb321, 3, none⟩ = some (.slice A0_3 l0_3.length c0_3) := (yE BK321.out 3).trans rfl
      have hfz21_0 := yD BK321.out 0
      have hfz21_1 := yD BK321.out 1
      have hfz21_2 := yD BK321.out 2
      have hfz21_3 := yD BK321.out 3
      go_wp2
      go_meet
      case rel => exact ⟨_, (false), (by first | rfl | (simp; done) | (simp [*]; done)), H', ⟨by have := HJ2.out; first | omega | exact Nat.le_refl _⟩, ⟨pk BK321.out⟩, ⟨pk BK322.out⟩, ⟨pb HB.out⟩⟩
     ·rw [if_neg c19] at H
      have c19b0 : (a0_0 == 2) = false := beq_eq_false_iff_ne.mpr c19
      have c19b1 : (a0_0 != 2) = true := bne_iff_ne.mpr c19
      (first | rw [c19b0] | (simp only [i64_w, i32_w]; rw [c19b0]) | skip)
      by_cases c22 : a0_0 = 3
      ·rw [if_pos c22] at H
       have c22b0 : (a0_0 == 3) = true := beq_iff_eq.mpr c22
       have c22b1 : (a0_0 != 3) = false := bne_eq_false_iff_eq.mpr c22
       clear c22
       have H' := yJ H
       clear H;have hnb23 := NB321_322.out;have hnc23 := NB322_321.out
       have hcz24_0 : wc.cell? ⟨gb321, 0, none⟩ = some (.int .i64 a0_0) := (yE BK321.out 0).trans rfl
       have hcz24_1 : wc.cell? ⟨gb321, 1, none⟩ = some (.string a0_1) := (yE BK321.out 1).trans rfl
       have hcz24_2 : wc.cell? ⟨gb321, 2, none⟩ = some (.int .i64 a0_2) := (yE BK321.out 2).trans rfl
       have hcz24_3 : wc.cell? ⟨gb321, 3, none⟩ = some (.slice A0_3 l0_3.length c0_3) := (yE BK321.out 3).trans rfl
       have hfz24_0 := yD BK321.out 0
       have hfz24_1 := yD BK321.out 1
       have hfz24_2 := yD BK321.out 2
       have hfz24_3 := yD BK321.out 3
       go_wp2
       go_meet
       case rel => exact ⟨_, (false), (by first | rfl | (simp; done) | (simp [*]; done)), H', ⟨by have := HJ2.out; first | omega | exact Nat.le_refl _⟩, ⟨pk BK321.out⟩, ⟨pk BK322.out⟩, ⟨pb HB.out⟩⟩
      ·rw [if_neg c22] at H
       have c22b0 : (a0_0 == 3) = false := beq_eq_false_iff_ne.mpr c22
       have c22b1 : (a0_0 != 3) = true := bne_iff_ne.mpr c22
       have H' := yJ H
       clear H;have hnb25 := NB321_322.out;have hnc25 := NB322_321.out
       have hcz26_0 : wc.cell? ⟨gb321, 0, none⟩ = some (.int .i64 a0_0) := (yE BK321.out 0).trans rfl
       have hcz26_1 : wc.cell? ⟨gb321, 1, none⟩ = some (.string a0_1) := (yE BK321.out 1).trans rfl
       have hcz26_2 : wc.cell? ⟨gb321, 2, none⟩ = some (.int .i64 a0_2) := (yE BK321.out 2).trans rfl
       have hcz26_3 : wc.cell? ⟨gb321, 3, none⟩ = some (.slice A0_3 l0_3.length c0_3) := (yE BK321.out 3).trans rfl
       have hfz26_0 := yD BK321.out 0
       have hfz26_1 := yD BK321.out 1
       have hfz26_2 := yD BK321.out 2
       have hfz26_3 := yD BK321.out 3
       have hcz27_0 : wc.cell? ⟨gb322, 0, none⟩ = some (.int .i64 a1_0) := (yE BK322.out 0).trans rfl
       have hcz27_1 : wc.cell? ⟨gb322, 1, none⟩ = some (.string a1_1) := (yE BK322.out 1).trans rfl
       have hcz27_2 : wc.cell? ⟨gb322, 2, none⟩ = some (.int .i64 a1_2) := (yE BK322.out 2).trans rfl
       have hcz27_3 : wc.cell? ⟨gb322, 3, none⟩ = some (.slice A1_3 l1_3.length c1_3) := (yE BK322.out 3).trans rfl
       have hfz27_0 := yD BK322.out 0
       have hfz27_1 := yD BK322.out 1
       have hfz27_2 := yD BK322.out 2
       have hfz27_3 := yD BK322.out 3
       go_wp2
       go_meet
       case rel => exact ⟨_, ((a0_1.toList != a1_1.toList)), (by first | rfl | (simp; done) | (simp [*]; done)), H', ⟨by have := HJ2.out; first | omega | exact Nat.le_refl _⟩, ⟨pk BK321.out⟩, ⟨pk BK322.out⟩, ⟨pb HB.out⟩⟩
    case rest =>
     clear HC18
     try clear c1
     try clear c2
     try clear p2
     try clear c4
     try clear c6
     try clear c6b0
     try clear c6b1
     try clear c7
     try clear c7b0
     try clear c7b1
     try clear c8
     try clear c11
     try clear c14
     try clear c17
     try clear c19
     try clear c19b0
     try clear c19b1
     try clear c20
     try clear c22
     try clear c22b0
     try clear c22b1
     try clear c23
     try clear c25
     try clear hcz10_0
     try clear hcz10_1
     try clear hcz10_2
     try clear hcz10_3
     try clear hcz12_0
     try clear hcz12_1
     try clear hcz12_2
     try clear hcz12_3
     try clear hcz13_0
     try clear hcz13_1
     try clear hcz13_2
     try clear hcz13_3
     try clear hcz15_0
     try clear hcz15_1
     try clear hcz15_2
     try clear hcz15_3
     try clear hcz16_0
     try clear hcz16_1
     try clear hcz16_2
     try clear hcz16_3
     try clear hcz21_0
     try clear hcz21_1
     try clear hcz21_2
     try clear hcz21_3
     try clear hcz24_0
     try clear hcz24_1
     try clear hcz24_2
     try clear hcz24_3
     try clear hcz26_0
     try clear hcz26_1
     try clear hcz26_2
     try clear hcz26_3
     try clear hcz27_0
     try clear hcz27_1
     try clear hcz27_2
     try clear hcz27_3
     try clear hcz9_0
     try clear hcz9_1
     try clear hcz9_2
     try clear hcz9_3
     try clear hfz10_0
     try clear hfz10_1
     try clear hfz10_2
     try clear hfz10_3
     try clear hfz12_0
     try clear hfz12_1
     try clear hfz12_2
     try clear hfz12_3
     try clear hfz13_0
     try clear hfz13_1
     try clear hfz13_2
     try clear hfz13_3
     try clear hfz15_0
     try clear hfz15_1
     try clear hfz15_2
     try clear hfz15_3
     try clear hfz16_0
     try clear hfz16_1
     try clear hfz16_2
     try clear hfz16_3
     try clear hfz21_0
     try clear hfz21_1
     try clear hfz21_2
     try clear hfz21_3
     try clear hfz24_0
     try clear hfz24_1
     try clear hfz24_2
     try clear hfz24_3
     try clear hfz26_0
     try clear hfz26_1
     try clear hfz26_2
     try clear hfz26_3
     try clear hfz27_0
     try clear hfz27_1
     try clear hfz27_2
     try clear hfz27_3
     try clear hfz9_0
     try clear hfz9_1
     try clear hfz9_2
     try clear hfz9_3
     try clear p2
     obtain ⟨kq, x41_17, rfl, HA, HJ17, BK321, BK322, HB⟩ := hcut
     cases kq with
     | zero => exact absurd HA.out (by simp [r5_Same.j1])
     | succ kj17 =>
      have H := HA.out;clear HA
      simp only [r5_Same.j1] at H
      by_cases c28 : x41_17 = true
      ·subst c28
       have H1 : (some false) = some r := by rw [if_pos rfl] at H; exact H
       clear H;have H := H1;clear H1
       obtain rfl := Option.some.inj H
       go_wp2
       go_ret
       exact ⟨by first | rfl | (simp [errW_none, errW_some] <;> rfl) | (simp [*, errW_none, errW_some] <;> rfl), pb HB.out⟩
      ·replace c28 := Bool.eq_false_iff.mpr c28
       subst c28
       have H1 : (r5_Same.l0 kj17 0 a0_0 a0_1 a0_2 l0_3 a1_0 a1_1 a1_2 l1_3) = some r := by rw [if_neg (show ¬ (false = true) by decide)] at H; exact H
       clear H;have H := H1;clear H1
       have H' := yJ H
       clear H
       go_wp2
       go_loopg [5] kj17 (fun kq v5 w' => ∃ (x5_3 : Int), v5 = .int .i64 x5_3 ∧ Aside0 (r5_Same.l0 kq x5_3 a0_0 a0_1 a0_2 l0_3 a1_0 a1_1 a1_2 l1_3 = some r) ∧ Aside0 (kq ≤ kj17) ∧ Aside0 (w'.heap[gb321]? = some (.cells #[.int .i64 a0_0, .string a0_1, .int .i64 a0_2, (.slice A0_3 l0_3.length c0_3)] 25 (0, 0))) ∧ Aside0 (w'.heap[gb322]? = some (.cells #[.int .i64 a1_0, .string a1_1, .int .i64 a1_2, (.slice A1_3 l1_3.length c1_3)] 25 (0, 0))) ∧ Aside0 (Below w.heap.size w w'))
       case atStart => exact ⟨(0), (by first | rfl | (simp; done) | (simp [*]; done)), H', ⟨Nat.le_refl _⟩, ⟨pk BK321.out⟩, ⟨pk BK322.out⟩, ⟨pb HB.out⟩⟩
       case round =>
        clear H'
        try clear c1
        try clear c2
        try clear p2
        try clear c4
        try clear c6
        try clear c6b0
        try clear c6b1
        try clear c7
        try clear c7b0
        try clear c7b1
        try clear c8
        try clear c11
        try clear c14
        try clear c17
        try clear c19
        try clear c19b0
        try clear c19b1
        try clear c20
        try clear c22
        try clear c22b0
        try clear c22b1
        try clear c23
        try clear c25
        try clear c28
        try clear hcz10_0
        try clear hcz10_1
        try clear hcz10_2
        try clear hcz10_3
        try clear hcz12_0
        try clear hcz12_1
        try clear hcz12_2
        try clear hcz12_3
        try clear hcz13_0
        try clear hcz13_1
        try clear hcz13_2
        try clear hcz13_3
        try clear hcz15_0
        try clear hcz15_1
        try clear hcz15_2
        try clear hcz15_3
        try clear hcz16_0
        try clear hcz16_1
        try clear hcz16_2
        try clear hcz16_3
        try clear hcz21_0
        try clear hcz21_1
        try clear hcz21_2
        try clear hcz21_3
        try clear hcz24_0
        try clear hcz24_1
        try clear hcz24_2
        try clear hcz24_3
        try clear hcz26_0
        try clear hcz26_1
        try clear hcz26_2
        try clear hcz26_3
        try clear hcz27_0
        try clear hcz27_1
        try clear hcz27_2
        try clear hcz27_3
        try clear hcz9_0
        try clear hcz9_1
        try clear hcz9_2
        try clear hcz9_3
        try clear hfz10_0
        try clear hfz10_1
        try clear hfz10_2
        try clear hfz10_3
        try clear hfz12_0
        try clear hfz12_1
        try clear hfz12_2
        try clear hfz12_3
        try clear hfz13_0
        try clear hfz13_1
        try clear hfz13_2
        try clear hfz13_3
        try clear hfz15_0
        try clear hfz15_1
        try clear hfz15_2
        try clear hfz15_3
        try clear hfz16_0
        try clear hfz16_1
        try clear hfz16_2
        try clear hfz16_3
        try clear hfz21_0
        try clear hfz21_1
        try clear hfz21_2
        try clear hfz21_3
        try clear hfz24_0
        try clear hfz24_1
        try clear hfz24_2
        try clear hfz24_3
        try clear hfz26_0
        try clear hfz26_1
        try clear hfz26_2
        try clear hfz26_3
        try clear hfz27_0
        try clear hfz27_1
        try clear hfz27_2
        try clear hfz27_3
        try clear hfz9_0
        try clear hfz9_1
        try clear hfz9_2
        try clear hfz9_3
        try clear p2
        obtain ⟨x5_3, rfl, HA, HK3, BK321, BK322, HB⟩ := hrel
        cases gk with
        | zero => exact absurd HA.out (by simp [r5_Same.l0])
        | succ k3 =>
         have H := HA.out;clear HA
         simp only [r5_Same.l0] at H
         by_cases c29 : x5_3 < (l0_3.length : Int)
         ·rw [if_pos c29] at H
          have c29b0 : decide (x5_3 < (l0_3.length : Int)) = true := decide_eq_true c29
          clear c29
          by_cases c30 : 0 ≤ x5_3
          ·rw [if_pos c30] at H
           have c30b0 : decide (0 ≤ x5_3) = true := decide_eq_true c30
           clear c30
           by_cases c31 : x5_3 < (l1_3.length : Int)
           ·rw [if_pos c31] at H
            have c31b0 : decide (x5_3 < (l1_3.length : Int)) = true := decide_eq_true c31
            clear c31;replace H := yK H;obtain ⟨t325, A320, H⟩ := H
            replace H : (if t325 = true then (r5_Same.l0 k3 (wrap64 (x5_3 + 1)) a0_0 a0_1 a0_2 l0_3 a1_0 a1_1 a1_2 l1_3) else (some false)) = some r := H
            have A32 := yJ A320;clear A320
            by_cases c33 : t325 = true
            ·subst c33
             have H1 : (r5_Same.l0 k3 (wrap64 (x5_3 + 1)) a0_0 a0_1 a0_2 l0_3 a1_0 a1_1 a1_2 l1_3) = some r := by rw [if_pos rfl] at H; exact H
             clear H;have H := H1;clear H1
             have H' := yJ H
             clear H;have hnb34 := NB321_322.out;have hnc34 := NB322_321.out
             have hcz35_0 : wr.cell? ⟨gb321, 0, none⟩ = some (.int .i64 a0_0) := (yE BK321.out 0).trans rfl
             have hcz35_1 : wr.cell? ⟨gb321, 1, none⟩ = some (.string a0_1) := (yE BK321.out 1).trans rfl
             have hcz35_2 : wr.cell? ⟨gb321, 2, none⟩ = some (.int .i64 a0_2) := (yE BK321.out 2).trans rfl
             have hcz35_3 : wr.cell? ⟨gb321, 3, none⟩ = some (.slice A0_3 l0_3.length c0_3) := (yE BK321.out 3).trans rfl
             have hfz35_0 := yD BK321.out 0
             have hfz35_1 := yD BK321.out 1
             have hfz35_2 := yD BK321.out 2
             have hfz35_3 := yD BK321.out 3
             try go_wp2
             have n0_ := yJ (yB BK321.out)
             have n1_ := yJ (yB BK322.out)
             have n2_ := yJ (yH HB.out)
             clear BK321 BK322 HB;have BK321 := n0_;have BK322 := n1_;have HB := n2_;clear n0_ n1_ n2_
             have p323 : 0 ≤ (x5_3 : Int) := of_decide_eq_true (by first | (with_reducible assumption) | assumption)
             have q323 : x5_3 < (l0_3.length : Int) := of_decide_eq_true (by first | (with_reducible assumption) | assumption)
             obtain ⟨ad323, A323_3, c323_3, e323, hx323_0, hx323_1, hx323_2, hx323_3, hl323_3, hi323_3⟩ := at_T25 HR0_3.out x5_3 p323 q323
             have hw323_3 := hx323_3;have hw323_2 := hx323_2;have hw323_1 := hx323_1;have hw323_0 := hx323_0
             cases e323
             replace hx323_0 := (HB.out.cell (World.block_lt_of_cell? w _ hx323_0)).trans hx323_0
             replace hx323_1 := (HB.out.cell (World.block_lt_of_cell? w _ hx323_1)).trans hx323_1
             replace hx323_2 := (HB.out.cell (World.block_lt_of_cell? w _ hx323_2)).trans hx323_2
             replace hx323_3 := (HB.out.cell (World.block_lt_of_cell? w _ hx323_3)).trans hx323_3
             have HR323_3 := yJ hi323_3;have HC323_3 := yJ hl323_3;clear hi323_3 hl323_3;replace p323 := eq_true p323;replace q323 := eq_true q323
             have p324 : 0 ≤ (x5_3 : Int) := of_decide_eq_true (by first | (with_reducible assumption) | assumption)
             have q324 : x5_3 < (l1_3.length : Int) := of_decide_eq_true (by first | (with_reducible assumption) | assumption)
             obtain ⟨ad324, A324_3, c324_3, e324, hx324_0, hx324_1, hx324_2, hx324_3, hl324_3, hi324_3⟩ := at_T25 HR1_3.out x5_3 p324 q324
             have hw324_3 := hx324_3;have hw324_2 := hx324_2;have hw324_1 := hx324_1;have hw324_0 := hx324_0
             cases e324
             replace hx324_0 := (HB.out.cell (World.block_lt_of_cell? w _ hx324_0)).trans hx324_0
             replace hx324_1 := (HB.out.cell (World.block_lt_of_cell? w _ hx324_1)).trans hx324_1
             replace hx324_2 := (HB.out.cell (World.block_lt_of_cell? w _ hx324_2)).trans hx324_2
             replace hx324_3 := (HB.out.cell (World.block_lt_of_cell? w _ hx324_3)).trans hx324_3
             have HR324_3 := yJ hi324_3;have HC324_3 := yJ hl324_3;clear hi324_3 hl324_3;replace p324 := eq_true p324;replace q324 := eq_true q324
             refine start_ (n := 12) (S := fun w' => w'.cell? ⟨gb321, 0, none⟩ = some (.int .i64 a0_0) ∧ w'.cell? ⟨gb321, 1, none⟩ = some (.string a0_1) ∧ w'.cell? ⟨gb321, 2, none⟩ = some (.int .i64 a0_2) ∧ w'.cell? ⟨gb321, 3, none⟩ = some (.slice (some ad323) l0_3.length c0_3) ∧ w'.cell? ⟨gb322, 0, none⟩ = some (.int .i64 a1_0) ∧ w'.cell? ⟨gb322, 1, none⟩ = some (.string a1_1) ∧ w'.cell? ⟨gb322, 2, none⟩ = some (.int .i64 a1_2) ∧ w'.cell? ⟨gb322, 3, none⟩ = some (.slice (some ad324) l1_3.length c1_3) ∧ w'.cell? (ad323.add ((x5_3).toNat * 4)) = some (.int .i64 ((rd_T25 l0_3 x5_3).f0)) ∧ w'.cell? ⟨(ad323.add ((x5_3).toNat * 4)).block, (ad323.add ((x5_3).toNat * 4)).off + 1, none⟩ = some (.string ((rd_T25 l0_3 x5_3).f1)) ∧ w'.cell? ⟨(ad323.add ((x5_3).toNat * 4)).block, (ad323.add ((x5_3).toNat * 4)).off + 2, none⟩ = some (.int .i64 ((rd_T25 l0_3 x5_3).f2)) ∧ w'.cell? ⟨(ad323.add ((x5_3).toNat * 4)).block, (ad323.add ((x5_3).toNat * 4)).off + 3, none⟩ = some (.slice A323_3 ((rd_T25 l0_3 x5_3).f3).length c323_3) ∧ w'.cell? (ad324.add ((x5_3).toNat * 4)) = some (.int .i64 ((rd_T25 l1_3 x5_3).f0)) ∧ w'.cell? ⟨(ad324.add ((x5_3).toNat * 4)).block, (ad324.add ((x5_3).toNat * 4)).off + 1, none⟩ = some (.string ((rd_T25 l1_3 x5_3).f1)) ∧ w'.cell? ⟨(ad324.add ((x5_3).toNat * 4)).block, (ad324.add ((x5_3).toNat * 4)).off + 2, none⟩ = some (.int .i64 ((rd_T25 l1_3 x5_3).f2)) ∧ w'.cell? ⟨(ad324.add ((x5_3).toNat * 4)).block, (ad324.add ((x5_3).toNat * 4)).off + 3, none⟩ = some (.slice A324_3 ((rd_T25 l1_3 x5_3).f3).length c324_3)) (ds := []) #[false, false, false, false, false, false, false, false, false, false, false, false] (by kernel_rfl) rfl rfl ⟨(yE BK321.out 0).trans rfl, (yE BK321.out 1).trans rfl, (yE BK321.out 2).trans rfl, (yE BK321.out 3).trans rfl, (yE BK322.out 0).trans rfl, (yE BK322.out 1).trans rfl, (yE BK322.out 2).trans rfl, (yE BK322.out 3).trans rfl, ((HB.out.cell (World.block_lt_of_cell? w _ hw323_0)).trans hw323_0), ((HB.out.cell (World.block_lt_of_cell? w _ hw323_1)).trans hw323_1), ((HB.out.cell (World.block_lt_of_cell? w _ hw323_2)).trans hw323_2), ((HB.out.cell (World.block_lt_of_cell? w _ hw323_3)).trans hw323_3), ((HB.out.cell (World.block_lt_of_cell? w _ hw324_0)).trans hw324_0), ((HB.out.cell (World.block_lt_of_cell? w _ hw324_1)).trans hw324_1), ((HB.out.cell (World.block_lt_of_cell? w _ hw324_2)).trans hw324_2), ((HB.out.cell (World.block_lt_of_cell? w _ hw324_3)).trans hw324_3)⟩ (fun hHeld => ?_); refine with_tabW r5_Same.tab8 r5_Same.bits8 (fun HT_ HW_ => ?_)
             generalize wr.drew = w36 at BK321 BK322 HB HR323_3 HR324_3 hx323_0 hx323_1 hx323_2 hx323_3 hx324_0 hx324_1 hx324_2 hx324_3 hHeld ⊢
             refine pure_ (i := 0) (N := some 49) (v := ?_) (a' := ?_) #[true, false, false, false, false, false, false, false, false, false, false, false] rfl rfl (any_of HT_.out (by kernel_rfl)) (fun _ _ _ h => h) (Or.inl ⟨by rfl, ?_⟩) ?_ ?_
             rotate_left
             ·intro w'
              go_simp;with_reducible rfl
             rotate_left
             ·simp only [Act.put, List.setIfInBounds_toArray, List.set_cons_zero, List.set_cons_succ, i64_w, i32_w]
              rfl
             refine pure_ (i := 2) (N := some 51) (v := ?_) (a' := ?_) #[true, false, true, false, false, false, false, false, false, false, false, false] rfl rfl (any_of HT_.out (by kernel_rfl)) (fun _ _ _ h => h) (Or.inl ⟨by rfl, ?_⟩) ?_ ?_
             rotate_left
             ·intro w'
              go_simp;with_reducible rfl
             rotate_left
             ·simp only [Act.put, List.setIfInBounds_toArray, List.set_cons_zero, List.set_cons_succ, i64_w, i32_w]
              rfl
             refine pure_ (i := 5) (N := some 54) (v := ?_) (a' := ?_) #[true, false, true, false, false, true, false, false, false, false, false, false] rfl rfl (any_of HT_.out (by kernel_rfl)) (fun _ _ _ h => h) (Or.inl ⟨by rfl, ?_⟩) ?_ ?_
             rotate_left
             ·intro w'
              go_simp;with_reducible rfl
             rotate_left
             ·simp only [Act.put, List.setIfInBounds_toArray, List.set_cons_zero, List.set_cons_succ, i64_w, i32_w]
              rfl
             refine pure_ (i := 7) (N := some 56) (v := ?_) (a' := ?_) #[true, false, true, false, false, true, false, true, false, false, false, false] rfl rfl (any_of HT_.out (by kernel_rfl)) (fun _ _ _ h => h) (Or.inl ⟨by rfl, ?_⟩) ?_ ?_
             rotate_left
             ·intro w'
              go_simp;with_reducible rfl
             rotate_left
             ·simp only [Act.put, List.setIfInBounds_toArray, List.set_cons_zero, List.set_cons_succ, i64_w, i32_w]
              rfl
             refine take_ (i := 1) (N := some 50) (v := ?_) (a' := ?_) #[true, true, true, false, false, true, false, true, false, false, false, false] rfl rfl (take_ofW HT_.out HW_.out (by kernel_rfl)) (fun _ _ _ h => h) (Or.inl ⟨by rfl, ?_⟩) hHeld ?_ ?_
             rotate_left
             ·rintro w' ⟨s0, s1, s2, s3, s4, s5, s6, s7, s8, s9, s10, s11, s12, s13, s14, s15⟩
              go_simp;with_reducible rfl
             rotate_left
             ·simp only [Act.put, List.setIfInBounds_toArray, List.set_cons_zero, List.set_cons_succ, i64_w, i32_w]
              rfl
             refine pure_ (i := 3) (N := some 52) (v := ?_) (a' := ?_) #[true, true, true, true, false, true, false, true, false, false, false, false] rfl rfl (any_of HT_.out (by kernel_rfl)) (fun _ _ _ h => h) (Or.inl ⟨by rfl, ?_⟩) ?_ ?_
             rotate_left
             ·intro w'
              go_simp;with_reducible rfl
             rotate_left
             ·simp only [Act.put, List.setIfInBounds_toArray, List.set_cons_zero, List.set_cons_succ, i64_w, i32_w]
              rfl
             refine take_ (i := 4) (N := some 53) (v := ?_) (a' := ?_) #[true, true, true, true, true, true, false, true, false, false, false, false] rfl rfl (take_ofW HT_.out HW_.out (by kernel_rfl)) (fun _ _ _ h => h) (Or.inl ⟨by rfl, ?_⟩) hHeld ?_ ?_
             rotate_left
             ·rintro w' ⟨s0, s1, s2, s3, s4, s5, s6, s7, s8, s9, s10, s11, s12, s13, s14, s15⟩
              go_simp;with_reducible rfl
             rotate_left
             ·simp only [Act.put, List.setIfInBounds_toArray, List.set_cons_zero, List.set_cons_succ, i64_w, i32_w]
              rfl
             refine take_ (i := 6) (N := some 55) (v := ?_) (a' := ?_) #[true, true, true, true, true, true, true, true, false, false, false, false] rfl rfl (take_ofW HT_.out HW_.out (by kernel_rfl)) (fun _ _ _ h => h) (Or.inl ⟨by rfl, ?_⟩) hHeld ?_ ?_
             rotate_left
             ·rintro w' ⟨s0, s1, s2, s3, s4, s5, s6, s7, s8, s9, s10, s11, s12, s13, s14, s15⟩
              go_simp;with_reducible rfl
             rotate_left
             ·simp only [Act.put, List.setIfInBounds_toArray, List.set_cons_zero, List.set_cons_succ, i64_w, i32_w]
              rfl
             refine pure_ (i := 8) (N := some 57) (v := ?_) (a' := ?_) #[true, true, true, true, true, true, true, true, true, false, false, false] rfl rfl (any_of HT_.out (by kernel_rfl)) (fun _ _ _ h => h) (Or.inl ⟨by rfl, ?_⟩) ?_ ?_
             rotate_left
             ·intro w'
              go_simp;with_reducible rfl
             rotate_left
             ·simp only [Act.put, List.setIfInBounds_toArray, List.set_cons_zero, List.set_cons_succ, i64_w, i32_w]
              rfl
             refine take_ (i := 9) (N := some 58) (v := ?_) (a' := ?_) #[true, true, true, true, true, true, true, true, true, true, false, false] rfl rfl (take_ofW HT_.out HW_.out (by kernel_rfl)) (fun _ _ _ h => h) (Or.inl ⟨by rfl, ?_⟩) hHeld ?_ ?_
             rotate_left
             ·rintro w' ⟨s0, s1, s2, s3, s4, s5, s6, s7, s8, s9, s10, s11, s12, s13, s14, s15⟩
              go_simp;with_reducible rfl
             rotate_left
             ·simp only [Act.put, List.setIfInBounds_toArray, List.set_cons_zero, List.set_cons_succ, i64_w, i32_w]
              rfl
             refine one_ (i := 10) (N := some 59) #[true, true, true, true, true, true, true, true, true, true, true, false] rfl rfl (one_of HT_.out (by kernel_rfl)) (by decide) (fun K hK => ?_)
             refine goes_ Tryd.func44 (by kernel_rfl) rfl #[.agg #[.int .i64 ((rd_T25 l0_3 x5_3).f0), .string ((rd_T25 l0_3 x5_3).f1), .int .i64 ((rd_T25 l0_3 x5_3).f2), .slice A323_3 ((rd_T25 l0_3 x5_3).f3).length c323_3], .agg #[.int .i64 ((rd_T25 l1_3 x5_3).f0), .string ((rd_T25 l1_3 x5_3).f1), .int .i64 ((rd_T25 l1_3 x5_3).f2), .slice A324_3 ((rd_T25 l1_3 x5_3).f3).length c324_3]] (by rfl) rfl rfl (by (try simp only [List.map_toArray, List.map_cons, List.map_nil]); first | done | rfl | (simp only [List.length_drop, List.length_take]; rfl)) ?_
             with_reducible refine (ih k3 (by have := HJ2.out; have := HJ17.out; have := HK3.out; omega) ((rd_T25 l0_3 x5_3).f0) ((rd_T25 l0_3 x5_3).f1) ((rd_T25 l0_3 x5_3).f2) _ _ ((rd_T25 l0_3 x5_3).f3) ((rd_T25 l1_3 x5_3).f0) ((rd_T25 l1_3 x5_3).f1) ((rd_T25 l1_3 x5_3).f2) _ _ ((rd_T25 l1_3 x5_3).f3) true _ ?side1 ?side2 ?side3 ?side4 A32.out).mono ?_
             (case side1 => repeat (first | exact (Kd.C_below HR323_3.out HB.out) | (with_reducible refine Kd.C_alloc ?_ _) | (with_reducible refine Kd.C_drewN ?_ _) | (with_reducible refine Kd.C_drew ?_)))
             (case side2 => exact HC323_3.out)
             (case side3 => repeat (first | exact (Kd.C_below HR324_3.out HB.out) | (with_reducible refine Kd.C_alloc ?_ _) | (with_reducible refine Kd.C_drewN ?_ _) | (with_reducible refine Kd.C_drew ?_)))
             (case side4 => exact HC324_3.out)
             rintro e w37 ⟨rfl, hb⟩
             refine ⟨_, rfl, ?_⟩
             have n0_ := yJ (blk_below (g := gb321) (o := .cells #[.int .i64 a0_0, .string a0_1, .int .i64 a0_2, .slice (some ad323) l0_3.length c0_3] 25 (0, 0)) (pk BK321.out) hb)
             have n1_ := yJ (blk_below (g := gb322) (o := .cells #[.int .i64 a1_0, .string a1_1, .int .i64 a1_2, .slice (some ad324) l1_3.length c1_3] 25 (0, 0)) (pk BK322.out) hb)
             have n2_ := yJ (below_step (pb HB.out) hb)
             clear BK321 BK322 HB;have BK321 := n0_;have BK322 := n1_;have HB := n2_;clear n0_ n1_ n2_;(try clear hb);(try clear hb2);(try clear hk);(try clear hi)
             refine hK.out _ _ ⟨(yE BK321.out 0).trans rfl, (yE BK321.out 1).trans rfl, (yE BK321.out 2).trans rfl, (yE BK321.out 3).trans rfl, (yE BK322.out 0).trans rfl, (yE BK322.out 1).trans rfl, (yE BK322.out 2).trans rfl, (yE BK322.out 3).trans rfl, ((HB.out.cell (World.block_lt_of_cell? w _ hw323_0)).trans hw323_0), ((HB.out.cell (World.block_lt_of_cell? w _ hw323_1)).trans hw323_1), ((HB.out.cell (World.block_lt_of_cell? w _ hw323_2)).trans hw323_2), ((HB.out.cell (World.block_lt_of_cell? w _ hw323_3)).trans hw323_3), ((HB.out.cell (World.block_lt_of_cell? w _ hw324_0)).trans hw324_0), ((HB.out.cell (World.block_lt_of_cell? w _ hw324_1)).trans hw324_1), ((HB.out.cell (World.block_lt_of_cell? w _ hw324_2)).trans hw324_2), ((HB.out.cell (World.block_lt_of_cell? w _ hw324_3)).trans hw324_3)⟩ (fun hHeld => ?_)
             clear hK K
             refine norm_ (a' := ?_) ?_ ?_
             rotate_left
             ·show Act.put _ (some 59) _ = _
              simp only [Act.put, List.setIfInBounds_toArray, List.set_cons_zero, List.set_cons_succ, i64_w, i32_w]
              rfl
             refine pure_ (i := 11) (N := some 60) (v := ?_) (a' := ?_) #[true, true, true, true, true, true, true, true, true, true, true, true] rfl rfl (any_of HT_.out (by kernel_rfl)) (fun _ _ _ h => h) (Or.inl ⟨by rfl, ?_⟩) ?_ ?_
             rotate_left
             ·intro w'
              go_simp;with_reducible rfl
             rotate_left
             ·simp only [Act.put, List.setIfInBounds_toArray, List.set_cons_zero, List.set_cons_succ, i64_w, i32_w]
              rfl
             refine done_ (done_of HT_.out (by kernel_rfl)) ?_
             try go_wp2
             go_roundg k3
             case measure => have := HJ2.out; have := HJ17.out; have := HK3.out; omega
             case rel => exact ⟨(wrap64 (x5_3 + 1)), (by first | rfl | (simp; done) | (simp [*]; done)), H', ⟨by have := HJ2.out; have := HJ17.out; have := HK3.out; omega⟩, ⟨pk BK321.out⟩, ⟨pk BK322.out⟩, ⟨pb HB.out⟩⟩
            ·replace c33 := Bool.eq_false_iff.mpr c33
             subst c33
             have H1 : (some false) = some r := by rw [if_neg (show ¬ (false = true) by decide)] at H; exact H
             clear H;have H := H1;clear H1
             obtain rfl := Option.some.inj H
             have hnb38 := NB321_322.out;have hnc38 := NB322_321.out
             have hcz39_0 : wr.cell? ⟨gb321, 0, none⟩ = some (.int .i64 a0_0) := (yE BK321.out 0).trans rfl
             have hcz39_1 : wr.cell? ⟨gb321, 1, none⟩ = some (.string a0_1) := (yE BK321.out 1).trans rfl
             have hcz39_2 : wr.cell? ⟨gb321, 2, none⟩ = some (.int .i64 a0_2) := (yE BK321.out 2).trans rfl
             have hcz39_3 : wr.cell? ⟨gb321, 3, none⟩ = some (.slice A0_3 l0_3.length c0_3) := (yE BK321.out 3).trans rfl
             have hfz39_0 := yD BK321.out 0
             have hfz39_1 := yD BK321.out 1
             have hfz39_2 := yD BK321.out 2
             have hfz39_3 := yD BK321.out 3
             try go_wp2
             have n0_ := yJ (yB BK321.out)
             have n1_ := yJ (yB BK322.out)
             have n2_ := yJ (yH HB.out)
             clear BK321 BK322 HB;have BK321 := n0_;have BK322 := n1_;have HB := n2_;clear n0_ n1_ n2_
             have p323 : 0 ≤ (x5_3 : Int) := of_decide_eq_true (by first | (with_reducible assumption) | assumption)
             have q323 : x5_3 < (l0_3.length : Int) := of_decide_eq_true (by first | (with_reducible assumption) | assumption)
             obtain ⟨ad323, A323_3, c323_3, e323, hx323_0, hx323_1, hx323_2, hx323_3, hl323_3, hi323_3⟩ := at_T25 HR0_3.out x5_3 p323 q323
             have hw323_3 := hx323_3;have hw323_2 := hx323_2;have hw323_1 := hx323_1;have hw323_0 := hx323_0
             cases e323
             replace hx323_0 := (HB.out.cell (World.block_lt_of_cell? w _ hx323_0)).trans hx323_0
             replace hx323_1 := (HB.out.cell (World.block_lt_of_cell? w _ hx323_1)).trans hx323_1
             replace hx323_2 := (HB.out.cell (World.block_lt_of_cell? w _ hx323_2)).trans hx323_2
             replace hx323_3 := (HB.out.cell (World.block_lt_of_cell? w _ hx323_3)).trans hx323_3
             have HR323_3 := yJ hi323_3;have HC323_3 := yJ hl323_3;clear hi323_3 hl323_3;replace p323 := eq_true p323;replace q323 := eq_true q323
             have p324 : 0 ≤ (x5_3 : Int) := of_decide_eq_true (by first | (with_reducible assumption) | assumption)
             have q324 : x5_3 < (l1_3.length : Int) := of_decide_eq_true (by first | (with_reducible assumption) | assumption)
             obtain ⟨ad324, A324_3, c324_3, e324, hx324_0, hx324_1, hx324_2, hx324_3, hl324_3, hi324_3⟩ := at_T25 HR1_3.out x5_3 p324 q324
             have hw324_3 := hx324_3;have hw324_2 := hx324_2;have hw324_1 := hx324_1;have hw324_0 := hx324_0
             cases e324
             replace hx324_0 := (HB.out.cell (World.block_lt_of_cell? w _ hx324_0)).trans hx324_0
             replace hx324_1 := (HB.out.cell (World.block_lt_of_cell? w _ hx324_1)).trans hx324_1
             replace hx324_2 := (HB.out.cell (World.block_lt_of_cell? w _ hx324_2)).trans hx324_2
             replace hx324_3 := (HB.out.cell (World.block_lt_of_cell? w _ hx324_3)).trans hx324_3
             have HR324_3 := yJ hi324_3;have HC324_3 := yJ hl324_3;clear hi324_3 hl324_3;replace p324 := eq_true p324;replace q324 := eq_true q324
             refine start_ (n := 12) (S := fun w' => w'.cell? ⟨gb321, 0, none⟩ = some (.int .i64 a0_0) ∧ w'.cell? ⟨gb321, 1, none⟩ = some (.string a0_1) ∧ w'.cell? ⟨gb321, 2, none⟩ = some (.int .i64 a0_2) ∧ w'.cell? ⟨gb321, 3, none⟩ = some (.slice (some ad323) l0_3.length c0_3) ∧ w'.cell? ⟨gb322, 0, none⟩ = some (.int .i64 a1_0) ∧ w'.cell? ⟨gb322, 1, none⟩ = some (.string a1_1) ∧ w'.cell? ⟨gb322, 2, none⟩ = some (.int .i64 a1_2) ∧ w'.cell? ⟨gb322, 3, none⟩ = some (.slice (some ad324) l1_3.length c1_3) ∧ w'.cell? (ad323.add ((x5_3).toNat * 4)) = some (.int .i64 ((rd_T25 l0_3 x5_3).f0)) ∧ w'.cell? ⟨(ad323.add ((x5_3).toNat * 4)).block, (ad323.add ((x5_3).toNat * 4)).off + 1, none⟩ = some (.string ((rd_T25 l0_3 x5_3).f1)) ∧ w'.cell? ⟨(ad323.add ((x5_3).toNat * 4)).block, (ad323.add ((x5_3).toNat * 4)).off + 2, none⟩ = some (.int .i64 ((rd_T25 l0_3 x5_3).f2)) ∧ w'.cell? ⟨(ad323.add ((x5_3).toNat * 4)).block, (ad323.add ((x5_3).toNat * 4)).off + 3, none⟩ = some (.slice A323_3 ((rd_T25 l0_3 x5_3).f3).length c323_3) ∧ w'.cell? (ad324.add ((x5_3).toNat * 4)) = some (.int .i64 ((rd_T25 l1_3 x5_3).f0)) ∧ w'.cell? ⟨(ad324.add ((x5_3).toNat * 4)).block, (ad324.add ((x5_3).toNat * 4)).off + 1, none⟩ = some (.string ((rd_T25 l1_3 x5_3).f1)) ∧ w'.cell? ⟨(ad324.add ((x5_3).toNat * 4)).block, (ad324.add ((x5_3).toNat * 4)).off + 2, none⟩ = some (.int .i64 ((rd_T25 l1_3 x5_3).f2)) ∧ w'.cell? ⟨(ad324.add ((x5_3).toNat * 4)).block, (ad324.add ((x5_3).toNat * 4)).off + 3, none⟩ = some (.slice A324_3 ((rd_T25 l1_3 x5_3).f3).length c324_3)) (ds := []) #[false, false, false, false, false, false, false, false, false, false, false, false] (by kernel_rfl) rfl rfl ⟨(yE BK321.out 0).trans rfl, (yE BK321.out 1).trans rfl, (yE BK321.out 2).trans rfl, (yE BK321.out 3).trans rfl, (yE BK322.out 0).trans rfl, (yE BK322.out 1).trans rfl, (yE BK322.out 2).trans rfl, (yE BK322.out 3).trans rfl, ((HB.out.cell (World.block_lt_of_cell? w _ hw323_0)).trans hw323_0), ((HB.out.cell (World.block_lt_of_cell? w _ hw323_1)).trans hw323_1), ((HB.out.cell (World.block_lt_of_cell? w _ hw323_2)).trans hw323_2), ((HB.out.cell (World.block_lt_of_cell? w _ hw323_3)).trans hw323_3), ((HB.out.cell (World.block_lt_of_cell? w _ hw324_0)).trans hw324_0), ((HB.out.cell (World.block_lt_of_cell? w _ hw324_1)).trans hw324_1), ((HB.out.cell (World.block_lt_of_cell? w _ hw324_2)).trans hw324_2), ((HB.out.cell (World.block_lt_of_cell? w _ hw324_3)).trans hw324_3)⟩ (fun hHeld => ?_); refine with_tabW r5_Same.tab8 r5_Same.bits8 (fun HT_ HW_ => ?_)
             generalize wr.drew = w40 at BK321 BK322 HB HR323_3 HR324_3 hx323_0 hx323_1 hx323_2 hx323_3 hx324_0 hx324_1 hx324_2 hx324_3 hHeld ⊢
             refine pure_ (i := 0) (N := some 49) (v := ?_) (a' := ?_) #[true, false, false, false, false, false, false, false, false, false, false, false] rfl rfl (any_of HT_.out (by kernel_rfl)) (fun _ _ _ h => h) (Or.inl ⟨by rfl, ?_⟩) ?_ ?_
             rotate_left
             ·intro w'
              go_simp;with_reducible rfl
             rotate_left
             ·simp only [Act.put, List.setIfInBounds_toArray, List.set_cons_zero, List.set_cons_succ, i64_w, i32_w]
              rfl
             refine pure_ (i := 2) (N := some 51) (v := ?_) (a' := ?_) #[true, false, true, false, false, false, false, false, false, false, false, false] rfl rfl (any_of HT_.out (by kernel_rfl)) (fun _ _ _ h => h) (Or.inl ⟨by rfl, ?_⟩) ?_ ?_
             rotate_left
             ·intro w'
              go_simp;with_reducible rfl
             rotate_left
             ·simp only [Act.put, List.setIfInBounds_toArray, List.set_cons_zero, List.set_cons_succ, i64_w, i32_w]
              rfl
             refine pure_ (i := 5) (N := some 54) (v := ?_) (a' := ?_) #[true, false, true, false, false, true, false, false, false, false, false, false] rfl rfl (any_of HT_.out (by kernel_rfl)) (fun _ _ _ h => h) (Or.inl ⟨by rfl, ?_⟩) ?_ ?_
             rotate_left
             ·intro w'
              go_simp;with_reducible rfl
             rotate_left
             ·simp only [Act.put, List.setIfInBounds_toArray, List.set_cons_zero, List.set_cons_succ, i64_w, i32_w]
              rfl
             refine pure_ (i := 7) (N := some 56) (v := ?_) (a' := ?_) #[true, false, true, false, false, true, false, true, false, false, false, false] rfl rfl (any_of HT_.out (by kernel_rfl)) (fun _ _ _ h => h) (Or.inl ⟨by rfl, ?_⟩) ?_ ?_
             rotate_left
             ·intro w'
              go_simp;with_reducible rfl
             rotate_left
             ·simp only [Act.put, List.setIfInBounds_toArray, List.set_cons_zero, List.set_cons_succ, i64_w, i32_w]
              rfl
             refine take_ (i := 1) (N := some 50) (v := ?_) (a' := ?_) #[true, true, true, false, false, true, false, true, false, false, false, false] rfl rfl (take_ofW HT_.out HW_.out (by kernel_rfl)) (fun _ _ _ h => h) (Or.inl ⟨by rfl, ?_⟩) hHeld ?_ ?_
             rotate_left
             ·rintro w' ⟨s0, s1, s2, s3, s4, s5, s6, s7, s8, s9, s10, s11, s12, s13, s14, s15⟩
              go_simp;with_reducible rfl
             rotate_left
             ·simp only [Act.put, List.setIfInBounds_toArray, List.set_cons_zero, List.set_cons_succ, i64_w, i32_w]
              rfl
             refine pure_ (i := 3) (N := some 52) (v := ?_) (a' := ?_) #[true, true, true, true, false, true, false, true, false, false, false, false] rfl rfl (any_of HT_.out (by kernel_rfl)) (fun _ _ _ h => h) (Or.inl ⟨by rfl, ?_⟩) ?_ ?_
             rotate_left
             ·intro w'
              go_simp;with_reducible rfl
             rotate_left
             ·simp only [Act.put, List.setIfInBounds_toArray, List.set_cons_zero, List.set_cons_succ, i64_w, i32_w]
              rfl
             refine take_ (i := 4) (N := some 53) (v := ?_) (a' := ?_) #[true, true, true, true, true, true, false, true, false, false, false, false] rfl rfl (take_ofW HT_.out HW_.out (by kernel_rfl)) (fun _ _ _ h => h) (Or.inl ⟨by rfl, ?_⟩) hHeld ?_ ?_
             rotate_left
             ·rintro w' ⟨s0, s1, s2, s3, s4, s5, s6, s7, s8, s9, s10, s11, s12, s13, s14, s15⟩
              go_simp;with_reducible rfl
             rotate_left
             ·simp only [Act.put, List.setIfInBounds_toArray, List.set_cons_zero, List.set_cons_succ, i64_w, i32_w]
              rfl
             refine take_ (i := 6) (N := some 55) (v := ?_) (a' := ?_) #[true, true, true, true, true, true, true, true, false, false, false, false] rfl rfl (take_ofW HT_.out HW_.out (by kernel_rfl)) (fun _ _ _ h => h) (Or.inl ⟨by rfl, ?_⟩) hHeld ?_ ?_
             rotate_left
             ·rintro w' ⟨s0, s1, s2, s3, s4, s5, s6, s7, s8, s9, s10, s11, s12, s13, s14, s15⟩
              go_simp;with_reducible rfl
             rotate_left
             ·simp only [Act.put, List.setIfInBounds_toArray, List.set_cons_zero, List.set_cons_succ, i64_w, i32_w]
              rfl
             refine pure_ (i := 8) (N := some 57) (v := ?_) (a' := ?_) #[true, true, true, true, true, true, true, true, true, false, false, false] rfl rfl (any_of HT_.out (by kernel_rfl)) (fun _ _ _ h => h) (Or.inl ⟨by rfl, ?_⟩) ?_ ?_
             rotate_left
             ·intro w'
              go_simp;with_reducible rfl
             rotate_left
             ·simp only [Act.put, List.setIfInBounds_toArray, List.set_cons_zero, List.set_cons_succ, i64_w, i32_w]
              rfl
             refine take_ (i := 9) (N := some 58) (v := ?_) (a' := ?_) #[true, true, true, true, true, true, true, true, true, true, false, false] rfl rfl (take_ofW HT_.out HW_.out (by kernel_rfl)) (fun _ _ _ h => h) (Or.inl ⟨by rfl, ?_⟩) hHeld ?_ ?_
             rotate_left
             ·rintro w' ⟨s0, s1, s2, s3, s4, s5, s6, s7, s8, s9, s10, s11, s12, s13, s14, s15⟩
              go_simp;with_reducible rfl
             rotate_left
             ·simp only [Act.put, List.setIfInBounds_toArray, List.set_cons_zero, List.set_cons_succ, i64_w, i32_w]
              rfl
             refine one_ (i := 10) (N := some 59) #[true, true, true, true, true, true, true, true, true, true, true, false] rfl rfl (one_of HT_.out (by kernel_rfl)) (by decide) (fun K hK => ?_)
             refine goes_ Tryd.func44 (by kernel_rfl) rfl #[.agg #[.int .i64 ((rd_T25 l0_3 x5_3).f0), .string ((rd_T25 l0_3 x5_3).f1), .int .i64 ((rd_T25 l0_3 x5_3).f2), .slice A323_3 ((rd_T25 l0_3 x5_3).f3).length c323_3], .agg #[.int .i64 ((rd_T25 l1_3 x5_3).f0), .string ((rd_T25 l1_3 x5_3).f1), .int .i64 ((rd_T25 l1_3 x5_3).f2), .slice A324_3 ((rd_T25 l1_3 x5_3).f3).length c324_3]] (by rfl) rfl rfl (by (try simp only [List.map_toArray, List.map_cons, List.map_nil]); first | done | rfl | (simp only [List.length_drop, List.length_take]; rfl)) ?_
             with_reducible refine (ih k3 (by have := HJ2.out; have := HJ17.out; have := HK3.out; omega) ((rd_T25 l0_3 x5_3).f0) ((rd_T25 l0_3 x5_3).f1) ((rd_T25 l0_3 x5_3).f2) _ _ ((rd_T25 l0_3 x5_3).f3) ((rd_T25 l1_3 x5_3).f0) ((rd_T25 l1_3 x5_3).f1) ((rd_T25 l1_3 x5_3).f2) _ _ ((rd_T25 l1_3 x5_3).f3) false _ ?side1 ?side2 ?side3 ?side4 A32.out).mono ?_
             (case side1 => repeat (first | exact (Kd.C_below HR323_3.out HB.out) | (with_reducible refine Kd.C_alloc ?_ _) | (with_reducible refine Kd.C_drewN ?_ _) | (with_reducible refine Kd.C_drew ?_)))
             (case side2 => exact HC323_3.out)
             (case side3 => repeat (first | exact (Kd.C_below HR324_3.out HB.out) | (with_reducible refine Kd.C_alloc ?_ _) | (with_reducible refine Kd.C_drewN ?_ _) | (with_reducible refine Kd.C_drew ?_)))
             (case side4 => exact HC324_3.out)
             rintro e w41 ⟨rfl, hb⟩
             refine ⟨_, rfl, ?_⟩
             have n0_ := yJ (blk_below (g := gb321) (o := .cells #[.int .i64 a0_0, .string a0_1, .int .i64 a0_2, .slice (some ad323) l0_3.length c0_3] 25 (0, 0)) (pk BK321.out) hb)
             have n1_ := yJ (blk_below (g := gb322) (o := .cells #[.int .i64 a1_0, .string a1_1, .int .i64 a1_2, .slice (some ad324) l1_3.length c1_3] 25 (0, 0)) (pk BK322.out) hb)
             have n2_ := yJ (below_step (pb HB.out) hb)
             clear BK321 BK322 HB;have BK321 := n0_;have BK322 := n1_;have HB := n2_;clear n0_ n1_ n2_;(try clear hb);(try clear hb2);(try clear hk);(try clear hi)
             refine hK.out _ _ ⟨(yE BK321.out 0).trans rfl, (yE BK321.out 1).trans rfl, (yE BK321.out 2).trans rfl, (yE BK321.out 3).trans rfl, (yE BK322.out 0).trans rfl, (yE BK322.out 1).trans rfl, (yE BK322.out 2).trans rfl, (yE BK322.out 3).trans rfl, ((HB.out.cell (World.block_lt_of_cell? w _ hw323_0)).trans hw323_0), ((HB.out.cell (World.block_lt_of_cell? w _ hw323_1)).trans hw323_1), ((HB.out.cell (World.block_lt_of_cell? w _ hw323_2)).trans hw323_2), ((HB.out.cell (World.block_lt_of_cell? w _ hw323_3)).trans hw323_3), ((HB.out.cell (World.block_lt_of_cell? w _ hw324_0)).trans hw324_0), ((HB.out.cell (World.block_lt_of_cell? w _ hw324_1)).trans hw324_1), ((HB.out.cell (World.block_lt_of_cell? w _ hw324_2)).trans hw324_2), ((HB.out.cell (World.block_lt_of_cell? w _ hw324_3)).trans hw324_3)⟩ (fun hHeld => ?_)
             clear hK K
             refine norm_ (a' := ?_) ?_ ?_
             rotate_left
             ·show Act.put _ (some 59) _ = _
              simp only [Act.put, List.setIfInBounds_toArray, List.set_cons_zero, List.set_cons_succ, i64_w, i32_w]
              rfl
             refine pure_ (i := 11) (N := some 60) (v := ?_) (a' := ?_) #[true, true, true, true, true, true, true, true, true, true, true, true] rfl rfl (any_of HT_.out (by kernel_rfl)) (fun _ _ _ h => h) (Or.inl ⟨by rfl, ?_⟩) ?_ ?_
             rotate_left
             ·intro w'
              go_simp;with_reducible rfl
             rotate_left
             ·simp only [Act.put, List.setIfInBounds_toArray, List.set_cons_zero, List.set_cons_succ, i64_w, i32_w]
              rfl
             refine done_ (done_of HT_.out (by kernel_rfl)) ?_
             try go_wp2
             go_ret
             exact ⟨by first | rfl | (simp [errW_none, errW_some] <;> rfl) | (simp [*, errW_none, errW_some] <;> rfl), pb HB.out⟩
           ·rw [if_neg c31] at H
            exact absurd H (by simp)
          ·rw [if_neg c30] at H
           exact absurd H (by simp)
         ·rw [if_neg c29] at H
          have c29b0 : decide (x5_3 < (l0_3.length : Int)) = false := decide_eq_false c29
          clear c29
          obtain rfl := Option.some.inj H
          have hnb42 := NB321_322.out;have hnc42 := NB322_321.out
          have hcz43_0 : wr.cell? ⟨gb321, 0, none⟩ = some (.int .i64 a0_0) := (yE BK321.out 0).trans rfl
          have hcz43_1 : wr.cell? ⟨gb321, 1, none⟩ = some (.string a0_1) := (yE BK321.out 1).trans rfl
          have hcz43_2 : wr.cell? ⟨gb321, 2, none⟩ = some (.int .i64 a0_2) := (yE BK321.out 2).trans rfl
          have hcz43_3 : wr.cell? ⟨gb321, 3, none⟩ = some (.slice A0_3 l0_3.length c0_3) := (yE BK321.out 3).trans rfl
          have hfz43_0 := yD BK321.out 0
          have hfz43_1 := yD BK321.out 1
          have hfz43_2 := yD BK321.out 2
          have hfz43_3 := yD BK321.out 3
          go_wp2
          go_ret
          exact ⟨by first | rfl | (simp [errW_none, errW_some] <;> rfl) | (simp [*, errW_none, errW_some] <;> rfl), pb HB.out⟩
end Go.Proofs.YtpkkoiljombooaaDoor.G
