import Derived.Test.YtpkkoiljombooaaDoorKG0
import Derived.Test.YtpkkoiljombooaaDoorKG1
import Derived.Test.YtpkkoiljombooaaDoorKNm
set_option linter.unusedVariables false
set_option linter.unusedSimpArgs false
namespace Go.Proofs.YtpkkoiljombooaaDoor.G
open Go.RowKit Go.Proofs.YtpkkoiljombooaaDoorW.PrintWords Go.Proofs.YtpkkoiljombooaaDoorW.PrintLast Go.Proofs.YtpkkoiljombooaaDoorW.PrintMore
attribute [local go_sem] max2_int min2_int max_two min_two max_three min_three max_four min_four
mutual
def fm_Term.j0 : Nat → Int → Int → Int → Int → Bool → List Int → Int → Option (Int × ByteArray × Int × (List (S25)) × Int)
 | 0, _, _, _, _, _, _, _ => none
 | k + 1, x1, x2, x3, x10, x26, x1000, x1001 => if x26 = true then (fm_Term.j1 k x1 x2 x3 4 x1000 x1001) else (fm_Term.j1 k x1 x2 x3 x10 x1000 x1001)
def fm_Term.j1 : Nat → Int → Int → Int → Int → List Int → Int → Option (Int × ByteArray × Int × (List (S25)) × Int)
 | 0, _, _, _, _, _, _ => none
 | k + 1, x1, x2, x3, x10, x1000, x1001 => if x10 = 5 then (if x2 = 0 then (fm_Term.j2 k x1 x2 x3 x10 true x1000 x1001) else (if x10 = 6 then (fm_Term.j2 k x1 x2 x3 x10 (x3 == 0) x1000 x1001) else (fm_Term.j2 k x1 x2 x3 x10 false x1000 x1001))) else (if x10 = 6 then (fm_Term.j2 k x1 x2 x3 x10 (x3 == 0) x1000 x1001) else (fm_Term.j2 k x1 x2 x3 x10 false x1000 x1001))
def fm_Term.j2 : Nat → Int → Int → Int → Int → Bool → List Int → Int → Option (Int × ByteArray × Int × (List (S25)) × Int)
 | 0, _, _, _, _, _, _, _ => none
 | k + 1, x1, x2, x3, x10, x40, x1000, x1001 => if x40 = true then (fm_Term.j3 k x1 x2 x3 4 x1000 x1001) else (fm_Term.j3 k x1 x2 x3 x10 x1000 x1001)
def fm_Term.j3 : Nat → Int → Int → Int → Int → List Int → Int → Option (Int × ByteArray × Int × (List (S25)) × Int)
 | 0, _, _, _, _, _, _ => none
 | k + 1, x1, x2, x3, x10, x1000, x1001 => if x10 = 3 then ((some (([(⟨#[120]⟩ : ByteArray), (⟨#[121]⟩ : ByteArray), (⟨#[78]⟩ : ByteArray), (⟨#[102]⟩ : ByteArray), (⟨#[95]⟩ : ByteArray), (⟨#[]⟩ : ByteArray)] : List ByteArray) : List ByteArray)).bind fun y174 => ((fm_Tape_Next.f x1000 x1001 ((([(⟨#[120]⟩ : ByteArray), (⟨#[121]⟩ : ByteArray), (⟨#[78]⟩ : ByteArray), (⟨#[102]⟩ : ByteArray), (⟨#[95]⟩ : ByteArray), (⟨#[]⟩ : ByteArray)] : List ByteArray)).length : Int)).bind fun bt180 => (if 0 ≤ bt180.1 then (if bt180.1 < (y174.length : Int) then ((fm_Term.f k x1000 bt180.2 (wrap64 (x1 - 1)) (wrap64 (x2 + 1)) x3).bind fun bt183 => (some (x10, rdOf ByteArray.empty y174 bt180.1, 0, (([(⟨bt183.1, bt183.2.1, bt183.2.2.1, bt183.2.2.2.1⟩ : S25)] : List (S25))), bt183.2.2.2.2))) else (none)) else (none)))) else (if x10 = 4 then ((some (([(⟨#[122]⟩ : ByteArray), (⟨#[115]⟩ : ByteArray), (⟨#[99]⟩ : ByteArray), (⟨#[97, 112, 112]⟩ : ByteArray)] : List ByteArray) : List ByteArray)).bind fun y193 => ((fm_Tape_Next.f x1000 x1001 4).bind fun bt196 => (if 0 ≤ bt196.1 then (if bt196.1 < (y193.length : Int) then (fm_Term.j4 k x1 x2 x3 x1000 bt196.2 x10 (rdOf ByteArray.empty y193 bt196.1) 0) else (none)) else (none)))) else (if x10 = 5 then ((fm_Tape_Next.f x1000 x1001 x2).bind fun bt199 => (fm_Term.j4 k x1 x2 x3 x1000 bt199.2 x10 (⟨#[]⟩ : ByteArray) bt199.1)) else (if x10 = 6 then ((fm_Tape_Next.f x1000 x1001 x3).bind fun bt201 => (fm_Term.j4 k x1 x2 x3 x1000 bt201.2 x10 (⟨#[]⟩ : ByteArray) bt201.1)) else (fm_Term.j4 k x1 x2 x3 x1000 x1001 x10 (⟨#[]⟩ : ByteArray) 0))))
def fm_Term.j4 : Nat → Int → Int → Int → List Int → Int → Int → ByteArray → Int → Option (Int × ByteArray × Int × (List (S25)) × Int)
 | 0, _, _, _, _, _, _, _, _ => none
 | k + 1, x1, x2, x3, x1000, x1001, x174000, x174001, x174002 => if x1 > 0 then ((fm_Tape_Next.f x1000 x1001 3).bind fun bt203 => (fm_Term.l0 k x1 x2 x3 bt203.1 x1000 bt203.2 x174000 x174001 x174002 ([] : List (S25)))) else (some (x174000, x174001, x174002, ([] : List (S25)), x1001))
def fm_Term.l0 : Nat → Int → Int → Int → Int → List Int → Int → Int → ByteArray → Int → List (S25) → Option (Int × ByteArray × Int × (List (S25)) × Int)
 | 0, _, _, _, _, _, _, _, _, _, _ => none
 | k + 1, x1, x2, x3, x12, x1000, x1001, x174000, x174001, x174002, x174003 => if x12 > 0 then ((fm_Term.f k x1000 x1001 (wrap64 (x1 - 1)) x2 x3).bind fun bt205 => (if x174003.length < 2513169434916 then (fm_Term.l0 k x1 x2 x3 (wrap64 (x12 - 1)) x1000 bt205.2.2.2.2 x174000 x174001 x174002 (x174003 ++ [(⟨bt205.1, bt205.2.1, bt205.2.2.1, bt205.2.2.2.1⟩ : S25)])) else (none))) else (some (x174000, x174001, x174002, x174003, x1001))
def fm_Term.f : Nat → List Int → Int → Int → Int → Int → Option (Int × ByteArray × Int × (List (S25)) × Int)
 | 0, _, _, _, _, _ => none
 | k + 1, s0_0, s0_1, a1, a2, a3 => (some (([3, 4, 4, 5, 6] : List Int) : List Int)).bind fun y167 => ((fm_Tape_Next.f s0_0 s0_1 (y167.length : Int)).bind fun bt170 => (if 0 ≤ bt170.1 then (if bt170.1 < (y167.length : Int) then (if a1 ≤ 0 then (fm_Term.j0 k a1 a2 a3 (rd y167 bt170.1) ((rd y167 bt170.1) == 3) s0_0 bt170.2) else (fm_Term.j0 k a1 a2 a3 (rd y167 bt170.1) false s0_0 bt170.2)) else (none)) else (none)))
end
def fm_Term.T10 : Bool × List (List Nat × List Nat) := (true, [([], []), ([], []), ([], []), ([2], [2]), ([1, 3], [1, 3]), ([0, 4], [0, 4]), ([5], [5]), ([0, 1, 2, 3, 4, 5, 6], []), ([7, 6, 4, 0, 1, 2, 3, 4, 5, 6], [6, 7])])
def fm_Term.B10 : List Nat := [0, 0, 0, 4, 14, 31, 63, 127, 255]
theorem fm_Term.tab10 : rtab .any (opsOf Tryd.f45 10) = fm_Term.T10 := by kernel_rfl
theorem fm_Term.bits10 : waitsOk fm_Term.T10.2 fm_Term.B10 = true := by kernel_rfl
def fm_Term.T23 : Bool × List (List Nat × List Nat) := (true, [([], []), ([0], [0]), ([], []), ([], []), ([3], [3]), ([], []), ([], []), ([2, 4, 5, 6], [2, 4, 5, 6]), ([7], [7]), ([1, 8, 7], [1, 8]), ([0, 1, 2, 3, 4, 5, 6, 7, 8, 9], []), ([10, 9, 9, 0, 1, 2, 3, 4, 5, 6, 7, 8, 9], [9, 10])])
def fm_Term.B23 : List Nat := [0, 1, 0, 0, 8, 0, 0, 124, 252, 511, 1023, 2047]
theorem fm_Term.tab23 : rtab .any (opsOf Tryd.f45 23) = fm_Term.T23 := by kernel_rfl
theorem fm_Term.bits23 : waitsOk fm_Term.T23.2 fm_Term.B23 = true := by kernel_rfl
set_option maxHeartbeats 8000000 in
set_option maxRecDepth 100000 in
theorem fm_Term.callsN (k : Nat) : ∀ (g : Nat) (s0_0 : List Int) (s0_1 : Int) (a1 : Int) (a2 : Int) (a3 : Int) (r1 : Int) (r2 : ByteArray) (r3 : Int) (r4 : List (S25)) (r5 : Int) (w0 w : World) (hI : IsS46 w0 w g s0_0 s0_1) (hB : Below w0.heap.size w0 w) (h : fm_Term.f k s0_0 s0_1 a1 a2 a3 = some (r1, r2, r3, r4, r5)) (hN : NamesLaid w0),
  Calls Tryd.prog 45 #[.pointer (some ⟨g, 0, none⟩), .int .i64 a1, .int .i64 a2, .int .i64 a3] w fun e w' => ∃ v3_ : Value, e = .returned (.agg #[.int .i64 r1, .string r2, .int .i64 r3, v3_]) ∧ Kd.N k25 25 w' w.heap.size (fun k_ => (w.heap.size ≤ k_)) v3_ r4 ∧ IsS46 w0 w' g s0_0 r5 ∧ Below w0.heap.size w0 w' ∧ KeepBut w w' g none := by
 induction k using Nat.strongRecOn with
 | _ k ih =>
 intro g s0_0 s0_1 a1 a2 a3 r1 r2 r3 r4 r5 w0 w hI hB h hN
 cases k with
 | zero => exact absurd h (by simp [fm_Term.f])
 | succ k =>
 simp only [fm_Term.f] at h
 have hu25 := Tryd.underlying25;have HI0 := yJ hI
 have HK := yJ (KeepBut.refl w g none)
 have HNL := yJ hN
 obtain ⟨NA, Nc, hN0⟩ := hN
 have HN := yJ hN0;clear hN0
 have HL := yJ hB.size
 clear hI
 have HW0 := yJ hB.size
 have HB := yJ hB;clear hB
 have H : ((some (([3, 4, 4, 5, 6] : List Int) : List Int)).bind fun y167 => ((fm_Tape_Next.f s0_0 s0_1 (y167.length : Int)).bind fun bt170 => (if 0 ≤ bt170.1 then (if bt170.1 < (y167.length : Int) then (if a1 ≤ 0 then (fm_Term.j0 k a1 a2 a3 (rd y167 bt170.1) ((rd y167 bt170.1) == 3) s0_0 bt170.2) else (fm_Term.j0 k a1 a2 a3 (rd y167 bt170.1) false s0_0 bt170.2)) else (none)) else (none)))) = some (r1, r2, r3, r4, r5) := h
 clear h
 obtain ⟨y167, hy167⟩ : ∃ y_ : List Int, y_ = (([3, 4, 4, 5, 6] : List Int)) := ⟨_, rfl⟩
 replace H : ((fm_Tape_Next.f s0_0 s0_1 (y167.length : Int)).bind fun bt170 => (if 0 ≤ bt170.1 then (if bt170.1 < (y167.length : Int) then (if a1 ≤ 0 then (fm_Term.j0 k a1 a2 a3 (rd y167 bt170.1) ((rd y167 bt170.1) == 3) s0_0 bt170.2) else (fm_Term.j0 k a1 a2 a3 (rd y167 bt170.1) false s0_0 bt170.2)) else (none)) else (none))) = some (r1, r2, r3, r4, r5) := by first | (rw [hy167]; with_reducible exact H) | (have H2_ := (Option.bind_some _ _).symm.trans H; rw [hy167]; with_reducible exact H2_) | (have H2_ := (Option.bind_some _ _).symm.trans H; with_reducible exact H2_) | with_reducible exact H | (rw [hy167]; exact H) | exact H
 have Ny167 := yJ hy167;clear hy167;replace H := yK H
 obtain ⟨⟨t170, t171⟩, A50, H⟩ := H
 replace H : (if 0 ≤ t170 then (if t170 < (y167.length : Int) then (if a1 ≤ 0 then (fm_Term.j0 k a1 a2 a3 (rd y167 t170) ((rd y167 t170) == 3) s0_0 t171) else (fm_Term.j0 k a1 a2 a3 (rd y167 t170) false s0_0 t171)) else (none)) else (none)) = some (r1, r2, r3, r4, r5) := H
 have A5 := yJ A50;clear A50
 by_cases c6 : 0 ≤ t170
 ·rw [if_pos c6] at H
  have c6b0 : decide (0 ≤ t170) = true := decide_eq_true c6
  clear c6
  by_cases c7 : t170 < (y167.length : Int)
  ·rw [if_pos c7] at H
   have c7b0 : decide (t170 < (y167.length : Int)) = true := decide_eq_true c7
   clear c7;have HC8 := yJ H;clear H
   go_enter Tryd.func45, Tryd.ntmps45
   go_upto_region 3 with (first | ((with_reducible refine gate_dst (N := 8) rfl ?_); refine box_event ?hg (N := 8) ?hd (cs := #[.int .i64 0, .string (⟨#[]⟩ : ByteArray), .int .i64 0, .slice none 0 0]) (t := 25) ?hr ?_; (case hd => rfl); (case hg => rfl); (case hr => first | (go_simp; done) | (go_simp; rfl)); intro gb166 hg w9 hbox hb; have n0_ := yJ (IsS46.below (by repeat (first | (with_reducible first | exact HI0.out | apply IsS46.alloc | apply IsS46.drewN | apply IsS46.drew | apply IsS46.set_1) | exact HI0.out)) hb); have n1_ := yJ (KeepBut.trans (by repeat (first | (with_reducible first | exact HK.out | apply KeepBut.set_ | apply keep_drewN | apply keep_drew | apply keep_alloc) | exact HK.out)) (KeepBut.of_below hb g none) (.inl rfl)); have n2_ := yJ (below_step (by repeat (first | (with_reducible first | exact HB.out | apply yF | apply yG | apply yH | refine yI ?_ (IsS46.ge HI0.out)) | exact HB.out)) hb); have n3_ := yJ (hbox); have n4_ := yJ ((by rw [hg]; exact (keep_size (w := w) (g := g) (row := none) (by repeat (first | (with_reducible first | exact HK.out | apply KeepBut.set_ | apply keep_drewN | apply keep_drew | apply keep_alloc) | exact HK.out))) : w.heap.size ≤ gb166)); have n5_ := yJ ((Nat.le_trans HW0.out (by rw [hg]; exact (keep_size (w := w) (g := g) (row := none) (by repeat (first | (with_reducible first | exact HK.out | apply KeepBut.set_ | apply keep_drewN | apply keep_drew | apply keep_alloc) | exact HK.out))) : w.heap.size ≤ gb166) : w0.heap.size ≤ gb166)); have n6_ := yJ ((by rw [hg]; exact Nat.ne_of_lt (IsS46.lt (show IsS46 w0 _ g s0_0 s0_1 from by repeat (first | (with_reducible first | exact HI0.out | apply IsS46.alloc | apply IsS46.drewN | apply IsS46.drew | apply IsS46.set_1) | exact HI0.out))) : g ≠ gb166)); have n7_ := yJ ((by rw [hg]; exact Nat.ne_of_gt (IsS46.lt (show IsS46 w0 _ g s0_0 s0_1 from by repeat (first | (with_reducible first | exact HI0.out | apply IsS46.alloc | apply IsS46.drewN | apply IsS46.drew | apply IsS46.set_1) | exact HI0.out))) : gb166 ≠ g)); clear HI0; clear HK; clear HB; have HI0 := n0_; have HK := n1_; have HB := n2_; have BK166 := n3_; have GW166 := n4_; have GE166 := n5_; have NB0_166 := n6_; have NB166_0 := n7_; clear n0_ n1_ n2_ n3_ n4_ n5_ n6_ n7_; clear hb hbox hg) | ((with_reducible refine gate_dst (N := 13) rfl ?_); refine Kd.R_lit (Kd.int .i64) _ 3 ?hg (N := 13) ?hd (xs := ([3, 4, 4, 5, 6] : List Int)) (inner := [.int .i64 3, .int .i64 4, .int .i64 4, .int .i64 5, .int .i64 6]) (ok := fun _ => True) (okp := fun _ => True) ?hr ?hp (fun _ hk => hk) trivial (Below.refl _ _) (Nat.le_refl _) (by simp) ?_; (case hd => rfl); (case hg => rfl); (case hr => first | (go_simp; done) | (go_simp; rfl)); (case hp => exact (Reps.one (show Kd.M (Kd.int .i64) _ _ _ 3 [.int .i64 3] from rfl) (Reps.one (show Kd.M (Kd.int .i64) _ _ _ 4 [.int .i64 4] from rfl) (Reps.one (show Kd.M (Kd.int .i64) _ _ _ 4 [.int .i64 4] from rfl) (Reps.one (show Kd.M (Kd.int .i64) _ _ _ 5 [.int .i64 5] from rfl) (Reps.one (show Kd.M (Kd.int .i64) _ _ _ 6 [.int .i64 6] from rfl) (Reps.none _ _))))))); intro v168 w10 ho11 hb hg_ hnew_; clear hg_ hnew_; (first | rw [← Ny167.out] at ho11 | (simp only [Int.reduceToNat] at ho11; rw [← Ny167.out] at ho11)); have n0_ := yJ (Kd.R_lower (Kd.R_newM (M := fun k_ => (w.heap.size ≤ k_)) ho11 (keep_size (w := w) (g := g) (row := none) (by repeat (first | (with_reducible first | exact HK.out | apply KeepBut.set_ | apply keep_drewN | apply keep_drew | apply keep_alloc | refine keep_far ?_ GW166.out _) | exact HK.out))) (fun k_ h_ => h_)) (keep_size (w := w) (g := g) (row := none) (by repeat (first | (with_reducible first | exact HK.out | apply KeepBut.set_ | apply keep_drewN | apply keep_drew | apply keep_alloc | refine keep_far ?_ GW166.out _) | exact HK.out)))); have n1_ := yJ (IsS46.below (by repeat (first | (with_reducible first | exact HI0.out | apply IsS46.alloc | apply IsS46.drewN | apply IsS46.drew | apply IsS46.set_1 | refine IsS46.far ?_ NB0_166.out _) | exact HI0.out)) hb); have n2_ := yJ (blk_below (g := gb166) (o := .cells #[.int .i64 0, .string (⟨#[]⟩ : ByteArray), .int .i64 0, .slice none 0 0] 25 (0, 0)) (pk BK166.out) hb); have n3_ := yJ (KeepBut.trans (by repeat (first | (with_reducible first | exact HK.out | apply KeepBut.set_ | apply keep_drewN | apply keep_drew | apply keep_alloc | refine keep_far ?_ GW166.out _) | exact HK.out)) (KeepBut.of_below hb g none) (.inl rfl)); have n4_ := yJ (below_step (by repeat (first | (with_reducible first | exact HB.out | apply yF | apply yG | apply yH | refine yI ?_ (IsS46.ge HI0.out) | refine yI ?_ GE166.out) | exact HB.out)) hb); clear HI0; clear BK166; clear HK; clear HB; have HO169 := n0_; have HI0 := n1_; have BK166 := n2_; have HK := n3_; have HB := n4_; clear n0_ n1_ n2_ n3_ n4_; clear hb ho11; obtain ⟨Ao12, co12, eo12⟩ := Kd.R_slice HO169.out; subst eo12) | ((with_reducible refine gate_callee (f := 90) rfl ?_); refine goesL_ (some 18) rfl rfl Tryd.func90 (by kernel_rfl) rfl #[.pointer (some ⟨g, 0, none⟩), .int .i64 (y167.length : Int)] rfl (by (try simp only [List.map_toArray, List.map_cons, List.map_nil]); first | done | rfl | (simp only [List.length_drop, List.length_take]; rfl)) ?_; (with_reducible refine (fm_Tape_Next.calls g s0_0 s0_1 (y167.length : Int) t170 t171 w0 _ ?side1 ?side2 A5.out).mono ?_); (case side1 => repeat (first | (with_reducible first | exact HI0.out | apply IsS46.alloc | apply IsS46.drewN | apply IsS46.drew | apply IsS46.set_1 | refine IsS46.far ?_ NB0_166.out _) | exact HI0.out)); (case side2 => repeat (first | (with_reducible first | exact HB.out | apply yF | apply yG | apply yH | refine yI ?_ (IsS46.ge HI0.out) | refine yI ?_ GE166.out) | exact HB.out)); rintro e w13 ⟨rfl, hi, hb, hk⟩; refine ⟨_, rfl, ?_⟩; have n0_ := yJ (KeepBut.blk hk (g' := gb166) (o := .cells #[.int .i64 0, .string (⟨#[]⟩ : ByteArray), .int .i64 0, .slice none 0 0] 25 (0, 0)) (pk BK166.out) NB166_0.out (by simp)); have n1_ := yJ (Kd.R_mono (Kd.R_keep (IsS46.apart (show IsS46 w0 _ g s0_0 s0_1 from by repeat (first | (with_reducible first | exact HI0.out | apply IsS46.alloc | apply IsS46.drewN | apply IsS46.drew | apply IsS46.set_1 | refine IsS46.far ?_ NB0_166.out _) | exact HI0.out)) (by (with_reducible repeat (first | apply Kd.R_alloc | apply Kd.R_drewN | apply Kd.R_drew)); exact HO169.out) (by decide)) hk (fun _ h => h.2)) (fun _ h => h.1)); have n2_ := yJ (KeepBut.trans (by repeat (first | (with_reducible first | exact HK.out | apply KeepBut.set_ | apply keep_drewN | apply keep_drew | apply keep_alloc | refine keep_far ?_ GW166.out _) | exact HK.out)) hk (.inl rfl)); have n3_ := yJ (hb); have n4_ := yJ (hi); clear BK166; clear HO169; clear HK; clear HB; clear HI0; have BK166 := n0_; have HO169 := n1_; have HK := n2_; have HB := n3_; have HI0 := n4_; clear n0_ n1_ n2_ n3_ n4_; (try clear hb); (try clear hb2); (try clear hk); (try clear hi); have p172 : 0 ≤ (t170 : Int) := of_decide_eq_true (by first | (with_reducible assumption) | assumption); have q172 : t170 < (y167.length : Int) := of_decide_eq_true (by first | (with_reducible assumption) | assumption); obtain ⟨ad172, e172, hx172_0⟩ := Kd.at_int (Kd.R_reads' HO169.out).2.2 t170 p172 q172; cases e172; replace p172 := eq_true p172; replace q172 := eq_true q172))
   (try simp only [Act.put, List.setIfInBounds_toArray, List.set_cons_zero, List.set_cons_succ])
   go_cut [26] (fun v26 wc => ∃ (kq : Nat) (x26_7 : Bool), v26 = .bool x26_7 ∧ Aside0 (fm_Term.j0 kq a1 a2 a3 (rd y167 t170) x26_7 s0_0 t171 = some (r1, r2, r3, r4, r5)) ∧ Aside0 (kq ≤ k) ∧ Aside0 (wc.heap[gb166]? = some (.cells #[.int .i64 0, .string (⟨#[]⟩ : ByteArray), .int .i64 0, (.slice none 0 0)] 25 (0, 0))) ∧ Aside0 (IsS46 w0 wc g s0_0 t171) ∧ Aside0 (KeepBut w wc g none) ∧ Aside0 (Below w0.heap.size w0 wc))
   case first =>
    have H := HC8.out;clear HC8
    by_cases c14 : a1 ≤ 0
    ·rw [if_pos c14] at H
     have c14b0 : decide (a1 ≤ 0) = true := decide_eq_true c14
     clear c14
     (first | rw [c14b0] | (simp only [i64_w, i32_w]; rw [c14b0]) | skip)
     have H' := yJ H
     clear H
     go_wp2
     go_meet
     case rel => exact ⟨_, (((rd y167 t170) == 3)), (by first | rfl | (simp; done) | (simp [*]; done)), H', ⟨by first | omega | exact Nat.le_refl _⟩, ⟨pk BK166.out⟩, ⟨by repeat (first | (with_reducible first | exact HI0.out | apply IsS46.alloc | apply IsS46.drewN | apply IsS46.drew | apply IsS46.set_1 | refine IsS46.far ?_ NB0_166.out _) | exact HI0.out)⟩, ⟨by repeat (first | (with_reducible first | exact HK.out | apply KeepBut.set_ | apply keep_drewN | apply keep_drew | apply keep_alloc | refine keep_far ?_ GW166.out _) | exact HK.out)⟩, ⟨by repeat (first | (with_reducible first | exact HB.out | apply yF | apply yG | apply yH | refine yI ?_ (IsS46.ge HI0.out) | refine yI ?_ GE166.out) | exact HB.out)⟩⟩
    ·rw [if_neg c14] at H
     have c14b0 : decide (a1 ≤ 0) = false := decide_eq_false c14
     clear c14
     (first | rw [c14b0] | (simp only [i64_w, i32_w]; rw [c14b0]) | skip)
     have H' := yJ H
     clear H
     go_wp2
     go_meet
     case rel => exact ⟨_, (false), (by first | rfl | (simp; done) | (simp [*]; done)), H', ⟨by first | omega | exact Nat.le_refl _⟩, ⟨pk BK166.out⟩, ⟨by repeat (first | (with_reducible first | exact HI0.out | apply IsS46.alloc | apply IsS46.drewN | apply IsS46.drew | apply IsS46.set_1 | refine IsS46.far ?_ NB0_166.out _) | exact HI0.out)⟩, ⟨by repeat (first | (with_reducible first | exact HK.out | apply KeepBut.set_ | apply keep_drewN | apply keep_drew | apply keep_alloc | refine keep_far ?_ GW166.out _) | exact HK.out)⟩, ⟨by repeat (first | (with_reducible first | exact HB.out | apply yF | apply yG | apply yH | refine yI ?_ (IsS46.ge HI0.out) | refine yI ?_ GE166.out) | exact HB.out)⟩⟩
   case rest =>
    clear HC8
    try clear c1
    try clear p1
    try clear q1
    try clear hx1
    try clear p2
    try clear c4
    try clear c6
    try clear c6b0
    try clear c7
    try clear c7b0
    try clear c9
    try clear c14
    try clear c14b0
    try clear hx172_0
    try clear p172
    try clear q172
    obtain ⟨kq, x26_7, rfl, HA, HJ7, BK166, HI0, HK, HB⟩ := hcut
    cases kq with
    | zero => exact absurd HA.out (by simp [fm_Term.j0])
    | succ kj7 =>
     have H := HA.out;clear HA
     simp only [fm_Term.j0] at H
     have HC15 := yJ H;clear H
     go_upto_if 26 with (fail)
     go_cut [10] (fun v10 wc => ∃ (kq : Nat) (x10_14 : Int), v10 = .int .i64 x10_14 ∧ Aside0 (fm_Term.j1 kq a1 a2 a3 x10_14 s0_0 t171 = some (r1, r2, r3, r4, r5)) ∧ Aside0 (kq ≤ kj7) ∧ Aside0 (wc.heap[gb166]? = some (.cells #[.int .i64 0, .string (⟨#[]⟩ : ByteArray), .int .i64 0, (.slice none 0 0)] 25 (0, 0))) ∧ Aside0 (IsS46 w0 wc g s0_0 t171) ∧ Aside0 (KeepBut w wc g none) ∧ Aside0 (Below w0.heap.size w0 wc))
     case first =>
      have H := HC15.out;clear HC15
      by_cases c16 : x26_7 = true
      ·subst c16
       have H1 : (fm_Term.j1 kj7 a1 a2 a3 4 s0_0 t171) = some (r1, r2, r3, r4, r5) := by rw [if_pos rfl] at H; exact H
       clear H;have H := H1;clear H1
       have H' := yJ H
       clear H
       go_wp2
       go_meet
       case rel => exact ⟨_, (4), (by first | rfl | (simp; done) | (simp [*]; done)), H', ⟨by have := HJ7.out; first | omega | exact Nat.le_refl _⟩, ⟨pk BK166.out⟩, ⟨by repeat (first | (with_reducible first | exact HI0.out | apply IsS46.alloc | apply IsS46.drewN | apply IsS46.drew | apply IsS46.set_1 | refine IsS46.far ?_ NB0_166.out _) | exact HI0.out)⟩, ⟨by repeat (first | (with_reducible first | exact HK.out | apply KeepBut.set_ | apply keep_drewN | apply keep_drew | apply keep_alloc | refine keep_far ?_ GW166.out _) | exact HK.out)⟩, ⟨by repeat (first | (with_reducible first | exact HB.out | apply yF | apply yG | apply yH | refine yI ?_ (IsS46.ge HI0.out) | refine yI ?_ GE166.out) | exact HB.out)⟩⟩
      ·replace c16 := Bool.eq_false_iff.mpr c16
       subst c16
       have H1 : (fm_Term.j1 kj7 a1 a2 a3 (rd y167 t170) s0_0 t171) = some (r1, r2, r3, r4, r5) := by rw [if_neg (show ¬ (false = true) by decide)] at H; exact H
       clear H;have H := H1;clear H1
       have H' := yJ H
       clear H
       go_wp2
       go_meet
       case rel => exact ⟨_, ((rd y167 t170)), (by first | rfl | (simp; done) | (simp [*]; done)), H', ⟨by have := HJ7.out; first | omega | exact Nat.le_refl _⟩, ⟨pk BK166.out⟩, ⟨by repeat (first | (with_reducible first | exact HI0.out | apply IsS46.alloc | apply IsS46.drewN | apply IsS46.drew | apply IsS46.set_1 | refine IsS46.far ?_ NB0_166.out _) | exact HI0.out)⟩, ⟨by repeat (first | (with_reducible first | exact HK.out | apply KeepBut.set_ | apply keep_drewN | apply keep_drew | apply keep_alloc | refine keep_far ?_ GW166.out _) | exact HK.out)⟩, ⟨by repeat (first | (with_reducible first | exact HB.out | apply yF | apply yG | apply yH | refine yI ?_ (IsS46.ge HI0.out) | refine yI ?_ GE166.out) | exact HB.out)⟩⟩
     case rest =>
      clear HC15
      try clear c1
      try clear p1
      try clear q1
      try clear hx1
      try clear p2
      try clear c4
      try clear c6
      try clear c6b0
      try clear c7
      try clear c7b0
      try clear c9
      try clear c14
      try clear c14b0
      try clear c16
      try clear hx172_0
      try clear p1
      try clear p172
      try clear p2
      try clear q1
      try clear q172
      obtain ⟨kq, x10_14, rfl, HA, HJ14, BK166, HI0, HK, HB⟩ := hcut
      cases kq with
      | zero => exact absurd HA.out (by simp [fm_Term.j1])
      | succ kj14 =>
       have H := HA.out;clear HA
       simp only [fm_Term.j1] at H
       have HC17 := yJ H;clear H
       go_upto_region 5 with (fail)
       go_cut [40] (fun v40 wc => ∃ (kq : Nat) (x40_16 : Bool), v40 = .bool x40_16 ∧ Aside0 (fm_Term.j2 kq a1 a2 a3 x10_14 x40_16 s0_0 t171 = some (r1, r2, r3, r4, r5)) ∧ Aside0 (kq ≤ kj14) ∧ Aside0 (wc.heap[gb166]? = some (.cells #[.int .i64 0, .string (⟨#[]⟩ : ByteArray), .int .i64 0, (.slice none 0 0)] 25 (0, 0))) ∧ Aside0 (IsS46 w0 wc g s0_0 t171) ∧ Aside0 (KeepBut w wc g none) ∧ Aside0 (Below w0.heap.size w0 wc))
       case first =>
        have H := HC17.out;clear HC17
        by_cases c18 : x10_14 = 5
        ·rw [if_pos c18] at H
         have c18b0 : (x10_14 == 5) = true := beq_iff_eq.mpr c18
         have c18b1 : (x10_14 != 5) = false := bne_eq_false_iff_eq.mpr c18
         clear c18
         (first | rw [c18b0] | (simp only [i64_w, i32_w]; rw [c18b0]) | skip)
         by_cases c19 : a2 = 0
         ·rw [if_pos c19] at H
          have c19b0 : (a2 == 0) = true := beq_iff_eq.mpr c19
          have c19b1 : (a2 != 0) = false := bne_eq_false_iff_eq.mpr c19
          clear c19
          have H' := yJ H
          clear H
          go_wp2
          go_meet
          case rel => exact ⟨_, (true), (by first | rfl | (simp; done) | (simp [*]; done)), H', ⟨by have := HJ7.out; have := HJ14.out; first | omega | exact Nat.le_refl _⟩, ⟨pk BK166.out⟩, ⟨by repeat (first | (with_reducible first | exact HI0.out | apply IsS46.alloc | apply IsS46.drewN | apply IsS46.drew | apply IsS46.set_1 | refine IsS46.far ?_ NB0_166.out _) | exact HI0.out)⟩, ⟨by repeat (first | (with_reducible first | exact HK.out | apply KeepBut.set_ | apply keep_drewN | apply keep_drew | apply keep_alloc | refine keep_far ?_ GW166.out _) | exact HK.out)⟩, ⟨by repeat (first | (with_reducible first | exact HB.out | apply yF | apply yG | apply yH | refine yI ?_ (IsS46.ge HI0.out) | refine yI ?_ GE166.out) | exact HB.out)⟩⟩
         ·rw [if_neg c19] at H
          have c19b0 : (a2 == 0) = false := beq_eq_false_iff_ne.mpr c19
          have c19b1 : (a2 != 0) = true := bne_iff_ne.mpr c19
          by_cases c20 : x10_14 = 6
          ·rw [if_pos c20] at H
           have c20b0 : (x10_14 == 6) = true := beq_iff_eq.mpr c20
           have c20b1 : (x10_14 != 6) = false := bne_eq_false_iff_eq.mpr c20
           clear c20
           have H' := yJ H
           clear H
           go_wp2
           go_meet
           case rel => exact ⟨_, ((a3 == 0)), (by first | rfl | (simp; done) | (simp [*]; done)), H', ⟨by have := HJ7.out; have := HJ14.out; first | omega | exact Nat.le_refl _⟩, ⟨pk BK166.out⟩, ⟨by repeat (first | (with_reducible first | exact HI0.out | apply IsS46.alloc | apply IsS46.drewN | apply IsS46.drew | apply IsS46.set_1 | refine IsS46.far ?_ NB0_166.out _) | exact HI0.out)⟩, ⟨by repeat (first | (with_reducible first | exact HK.out | apply KeepBut.set_ | apply keep_drewN | apply keep_drew | apply keep_alloc | refine keep_far ?_ GW166.out _) | exact HK.out)⟩, ⟨by repeat (first | (with_reducible first | exact HB.out | apply yF | apply yG | apply yH | refine yI ?_ (IsS46.ge HI0.out) | refine yI ?_ GE166.out) | exact HB.out)⟩⟩
          ·rw [if_neg c20] at H
           have c20b0 : (x10_14 == 6) = false := beq_eq_false_iff_ne.mpr c20
           have c20b1 : (x10_14 != 6) = true := bne_iff_ne.mpr c20
           have H' := yJ H
           clear H
           go_wp2
           go_meet
           case rel => exact ⟨_, (false), (by first | rfl | (simp; done) | (simp [*]; done)), H', ⟨by have := HJ7.out; have := HJ14.out; first | omega | exact Nat.le_refl _⟩, ⟨pk BK166.out⟩, ⟨by repeat (first | (with_reducible first | exact HI0.out | apply IsS46.alloc | apply IsS46.drewN | apply IsS46.drew | apply IsS46.set_1 | refine IsS46.far ?_ NB0_166.out _) | exact HI0.out)⟩, ⟨by repeat (first | (with_reducible first | exact HK.out | apply KeepBut.set_ | apply keep_drewN | apply keep_drew | apply keep_alloc | refine keep_far ?_ GW166.out _) | exact HK.out)⟩, ⟨by repeat (first | (with_reducible first | exact HB.out | apply yF | apply yG | apply yH | refine yI ?_ (IsS46.ge HI0.out) | refine yI ?_ GE166.out) | exact HB.out)⟩⟩
        ·rw [if_neg c18] at H
         have c18b0 : (x10_14 == 5) = false := beq_eq_false_iff_ne.mpr c18
         have c18b1 : (x10_14 != 5) = true := bne_iff_ne.mpr c18
         (first | rw [c18b0] | (simp only [i64_w, i32_w]; rw [c18b0]) | skip)
         by_cases c21 : x10_14 = 6
         ·rw [if_pos c21] at H
          have c21b0 : (x10_14 == 6) = true := beq_iff_eq.mpr c21
          have c21b1 : (x10_14 != 6) = false := bne_eq_false_iff_eq.mpr c21
          clear c21
          have H' := yJ H
          clear H
          go_wp2
          go_meet
          case rel => exact ⟨_, ((a3 == 0)), (by first | rfl | (simp; done) | (simp [*]; done)), H', ⟨by have := HJ7.out; have := HJ14.out; first | omega | exact Nat.le_refl _⟩, ⟨pk BK166.out⟩, ⟨by repeat (first | (with_reducible first | exact HI0.out | apply IsS46.alloc | apply IsS46.drewN | apply IsS46.drew | apply IsS46.set_1 | refine IsS46.far ?_ NB0_166.out _) | exact HI0.out)⟩, ⟨by repeat (first | (with_reducible first | exact HK.out | apply KeepBut.set_ | apply keep_drewN | apply keep_drew | apply keep_alloc | refine keep_far ?_ GW166.out _) | exact HK.out)⟩, ⟨by repeat (first | (with_reducible first | exact HB.out | apply yF | apply yG | apply yH | refine yI ?_ (IsS46.ge HI0.out) | refine yI ?_ GE166.out) | exact HB.out)⟩⟩
         ·rw [if_neg c21] at H
          have c21b0 : (x10_14 == 6) = false := beq_eq_false_iff_ne.mpr c21
          have c21b1 : (x10_14 != 6) = true := bne_iff_ne.mpr c21
          have H' := yJ H
          clear H
          go_wp2
          go_meet
          case rel => exact ⟨_, (false), (by first | rfl | (simp; done) | (simp [*]; done)), H', ⟨by have := HJ7.out; have := HJ14.out; first | omega | exact Nat.le_refl _⟩, ⟨pk BK166.out⟩, ⟨by repeat (first | (with_reducible first | exact HI0.out | apply IsS46.alloc | apply IsS46.drewN | apply IsS46.drew | apply IsS46.set_1 | refine IsS46.far ?_ NB0_166.out _) | exact HI0.out)⟩, ⟨by repeat (first | (with_reducible first | exact HK.out | apply KeepBut.set_ | apply keep_drewN | apply keep_drew | apply keep_alloc | refine keep_far ?_ GW166.out _) | exact HK.out)⟩, ⟨by repeat (first | (with_reducible first | exact HB.out | apply yF | apply yG | apply yH | refine yI ?_ (IsS46.ge HI0.out) | refine yI ?_ GE166.out) | exact HB.out)⟩⟩
       case rest =>
        clear HC17
        try clear c1
        try clear p1
        try clear q1
        try clear hx1
        try clear c2
        try clear p2
        try clear c4
        try clear c6
        try clear c6b0
        try clear c7
        try clear c7b0
        try clear c9
        try clear c14
        try clear c14b0
        try clear c16
        try clear p17
        try clear q17
        try clear hx17
        try clear c18
        try clear c18b0
        try clear c18b1
        try clear c19
        try clear c19b0
        try clear c19b1
        try clear c20
        try clear c20b0
        try clear c20b1
        try clear c21
        try clear c21b0
        try clear c21b1
        try clear hx172_0
        try clear p1
        try clear p172
        try clear p2
        try clear q1
        try clear q172
        obtain ⟨kq, x40_16, rfl, HA, HJ16, BK166, HI0, HK, HB⟩ := hcut
        cases kq with
        | zero => exact absurd HA.out (by simp [fm_Term.j2])
        | succ kj16 =>
         have H := HA.out;clear HA
         simp only [fm_Term.j2] at H
         have HC22 := yJ H;clear H
         go_upto_if 40 with (fail)
         go_cut [10] (fun v10 wc => ∃ (kq : Nat) (x10_21 : Int), v10 = .int .i64 x10_21 ∧ Aside0 (fm_Term.j3 kq a1 a2 a3 x10_21 s0_0 t171 = some (r1, r2, r3, r4, r5)) ∧ Aside0 (kq ≤ kj16) ∧ Aside0 (wc.heap[gb166]? = some (.cells #[.int .i64 0, .string (⟨#[]⟩ : ByteArray), .int .i64 0, (.slice none 0 0)] 25 (0, 0))) ∧ Aside0 (IsS46 w0 wc g s0_0 t171) ∧ Aside0 (KeepBut w wc g none) ∧ Aside0 (Below w0.heap.size w0 wc))
         case first =>
          have H := HC22.out;clear HC22
          by_cases c23 : x40_16 = true
          ·subst c23
           have H1 : (fm_Term.j3 kj16 a1 a2 a3 4 s0_0 t171) = some (r1, r2, r3, r4, r5) := by rw [if_pos rfl] at H; exact H
           clear H;have H := H1;clear H1
           have H' := yJ H
           clear H
           go_wp2
           go_meet
           case rel => exact ⟨_, (4), (by first | rfl | (simp; done) | (simp [*]; done)), H', ⟨by have := HJ7.out; have := HJ14.out; have := HJ16.out; first | omega | exact Nat.le_refl _⟩, ⟨pk BK166.out⟩, ⟨by repeat (first | (with_reducible first | exact HI0.out | apply IsS46.alloc | apply IsS46.drewN | apply IsS46.drew | apply IsS46.set_1 | refine IsS46.far ?_ NB0_166.out _) | exact HI0.out)⟩, ⟨by repeat (first | (with_reducible first | exact HK.out | apply KeepBut.set_ | apply keep_drewN | apply keep_drew | apply keep_alloc | refine keep_far ?_ GW166.out _) | exact HK.out)⟩, ⟨by repeat (first | (with_reducible first | exact HB.out | apply yF | apply yG | apply yH | refine yI ?_ (IsS46.ge HI0.out) | refine yI ?_ GE166.out) | exact HB.out)⟩⟩
          ·replace c23 := Bool.eq_false_iff.mpr c23
           subst c23
           have H1 : (fm_Term.j3 kj16 a1 a2 a3 x10_14 s0_0 t171) = some (r1, r2, r3, r4, r5) := by rw [if_neg (show ¬ (false = true) by decide)] at H; exact H
           clear H;have H := H1;clear H1
           have H' := yJ H
           clear H
           go_wp2
           go_meet
           case rel => exact ⟨_, (x10_14), (by first | rfl | (simp; done) | (simp [*]; done)), H', ⟨by have := HJ7.out; have := HJ14.out; have := HJ16.out; first | omega | exact Nat.le_refl _⟩, ⟨pk BK166.out⟩, ⟨by repeat (first | (with_reducible first | exact HI0.out | apply IsS46.alloc | apply IsS46.drewN | apply IsS46.drew | apply IsS46.set_1 | refine IsS46.far ?_ NB0_166.out _) | exact HI0.out)⟩, ⟨by repeat (first | (with_reducible first | exact HK.out | apply KeepBut.set_ | apply keep_drewN | apply keep_drew | apply keep_alloc | refine keep_far ?_ GW166.out _) | exact HK.out)⟩, ⟨by repeat (first | (with_reducible first | exact HB.out | apply yF | apply yG | apply yH | refine yI ?_ (IsS46.ge HI0.out) | refine yI ?_ GE166.out) | exact HB.out)⟩⟩
         case rest =>
          clear HC22
          try clear c1
          try clear p1
          try clear q1
          try clear hx1
          try clear c2
          try clear p2
          try clear c4
          try clear c6
          try clear c6b0
          try clear c7
          try clear c7b0
          try clear c9
          try clear c14
          try clear c14b0
          try clear c16
          try clear p17
          try clear q17
          try clear hx17
          try clear c18
          try clear c18b0
          try clear c18b1
          try clear c19
          try clear c19b0
          try clear c19b1
          try clear c20
          try clear c20b0
          try clear c20b1
          try clear c21
          try clear c21b0
          try clear c21b1
          try clear c23
          try clear hx172_0
          try clear p1
          try clear p17
          try clear p172
          try clear p2
          try clear q1
          try clear q17
          try clear q172
          obtain ⟨kq, x10_21, rfl, HA, HJ21, BK166, HI0, HK, HB⟩ := hcut
          cases kq with
          | zero => exact absurd HA.out (by simp [fm_Term.j3])
          | succ kj21 =>
           have H := HA.out;clear HA
           simp only [fm_Term.j3] at H
           have HC24 := yJ H;clear H
           go_upto_block 0 with (first | ((with_reducible refine gate_dst (N := 11) rfl ?_); refine box_event ?hg (N := 11) ?hd (cs := #[.int .i64 0, .string (⟨#[]⟩ : ByteArray), .int .i64 0, .slice none 0 0]) (t := 25) ?hr ?_; (case hd => rfl); (case hg => rfl); (case hr => first | (go_simp; done) | (go_simp; rfl)); intro gb173 hg w25 hbox hb; have n0_ := yJ (blk_below (g := gb166) (o := .cells #[.int .i64 0, .string (⟨#[]⟩ : ByteArray), .int .i64 0, .slice none 0 0] 25 (0, 0)) (pk BK166.out) hb); have n1_ := yJ (IsS46.below (by repeat (first | (with_reducible first | exact HI0.out | apply IsS46.alloc | apply IsS46.drewN | apply IsS46.drew | apply IsS46.set_1 | refine IsS46.far ?_ NB0_166.out _) | exact HI0.out)) hb); have n2_ := yJ (KeepBut.trans (by repeat (first | (with_reducible first | exact HK.out | apply KeepBut.set_ | apply keep_drewN | apply keep_drew | apply keep_alloc | refine keep_far ?_ GW166.out _) | exact HK.out)) (KeepBut.of_below hb g none) (.inl rfl)); have n3_ := yJ (below_step (by repeat (first | (with_reducible first | exact HB.out | apply yF | apply yG | apply yH | refine yI ?_ (IsS46.ge HI0.out) | refine yI ?_ GE166.out) | exact HB.out)) hb); have n4_ := yJ (hbox); have n5_ := yJ ((by rw [hg]; exact (keep_size (w := w) (g := g) (row := none) (by repeat (first | (with_reducible first | exact HK.out | apply KeepBut.set_ | apply keep_drewN | apply keep_drew | apply keep_alloc | refine keep_far ?_ GW166.out _) | exact HK.out))) : w.heap.size ≤ gb173)); have n6_ := yJ ((Nat.le_trans HW0.out (by rw [hg]; exact (keep_size (w := w) (g := g) (row := none) (by repeat (first | (with_reducible first | exact HK.out | apply KeepBut.set_ | apply keep_drewN | apply keep_drew | apply keep_alloc | refine keep_far ?_ GW166.out _) | exact HK.out))) : w.heap.size ≤ gb173) : w0.heap.size ≤ gb173)); have n7_ := yJ ((by rw [hg]; exact Nat.ne_of_lt (blk_lt (g := gb166) (o := .cells #[.int .i64 0, .string (⟨#[]⟩ : ByteArray), .int .i64 0, .slice none 0 0] 25 (0, 0)) (pk BK166.out)) : gb166 ≠ gb173)); have n8_ := yJ ((by rw [hg]; exact Nat.ne_of_gt (blk_lt (g := gb166) (o := .cells #[.int .i64 0, .string (⟨#[]⟩ : ByteArray), .int .i64 0, .slice none 0 0] 25 (0, 0)) (pk BK166.out)) : gb173 ≠ gb166)); have n9_ := yJ ((by rw [hg]; exact Nat.ne_of_lt (IsS46.lt (show IsS46 w0 _ g s0_0 t171 from by repeat (first | (with_reducible first | exact HI0.out | apply IsS46.alloc | apply IsS46.drewN | apply IsS46.drew | apply IsS46.set_1 | refine IsS46.far ?_ NB0_166.out _) | exact HI0.out))) : g ≠ gb173)); have n10_ := yJ ((by rw [hg]; exact Nat.ne_of_gt (IsS46.lt (show IsS46 w0 _ g s0_0 t171 from by repeat (first | (with_reducible first | exact HI0.out | apply IsS46.alloc | apply IsS46.drewN | apply IsS46.drew | apply IsS46.set_1 | refine IsS46.far ?_ NB0_166.out _) | exact HI0.out))) : gb173 ≠ g)); clear BK166; clear HI0; clear HK; clear HB; have BK166 := n0_; have HI0 := n1_; have HK := n2_; have HB := n3_; have BK173 := n4_; have GW173 := n5_; have GE173 := n6_; have NB166_173 := n7_; have NB173_166 := n8_; have NB0_173 := n9_; have NB173_0 := n10_; clear n0_ n1_ n2_ n3_ n4_ n5_ n6_ n7_ n8_ n9_ n10_; clear hb hbox hg; have hnb26 := NB173_166.out; have hnc26 := NB166_173.out; have hnb27 := NB173_0.out; have hnc27 := NB0_173.out; have hcz28_0 : w25.cell? ⟨gb173, 0, none⟩ = some (.int .i64 0) := (yE BK173.out 0).trans rfl; have hcz28_1 : w25.cell? ⟨gb173, 1, none⟩ = some (.string (⟨#[]⟩ : ByteArray)) := (yE BK173.out 1).trans rfl; have hcz28_2 : w25.cell? ⟨gb173, 2, none⟩ = some (.int .i64 0) := (yE BK173.out 2).trans rfl; have hcz28_3 : w25.cell? ⟨gb173, 3, none⟩ = some (.slice none 0 0) := (yE BK173.out 3).trans rfl; have hfz28_0 := yD BK173.out 0; have hfz28_1 := yD BK173.out 1; have hfz28_2 := yD BK173.out 2; have hfz28_3 := yD BK173.out 3))
           (try simp only [Act.put, List.setIfInBounds_toArray, List.set_cons_zero, List.set_cons_succ])
           go_cut [] (fun wc => ∃ (kq : Nat) (x1001_23 : Int) (x167000_23 : Int) (x167001_23 : ByteArray) (x167002_23 : Int) (x174001_23 : ByteArray) (x174002_23 : Int), Aside0 (fm_Term.j4 kq a1 a2 a3 s0_0 x1001_23 x10_21 x174001_23 x174002_23 = some (r1, r2, r3, r4, r5)) ∧ Aside0 (kq ≤ kj21) ∧ Aside0 (wc.heap[gb166]? = some (.cells #[.int .i64 x167000_23, .string x167001_23, .int .i64 x167002_23, (.slice none 0 0)] 25 (0, 0))) ∧ Aside0 (wc.heap[gb173]? = some (.cells #[.int .i64 x10_21, .string x174001_23, .int .i64 x174002_23, (.slice none 0 0)] 25 (0, 0))) ∧ Aside0 (IsS46 w0 wc g s0_0 x1001_23) ∧ Aside0 (KeepBut w wc g none) ∧ Aside0 (Below w0.heap.size w0 wc))
           case first =>
            have H := HC24.out;clear HC24
            by_cases c29 : x10_21 = 3
            ·rw [if_pos c29] at H
             have c29b0 : (x10_21 == 3) = true := beq_iff_eq.mpr c29
             have c29b1 : (x10_21 != 3) = false := bne_eq_false_iff_eq.mpr c29
             clear c29
             (first | rw [c29b0] | (simp only [i64_w, i32_w]; rw [c29b0]) | skip)
             obtain ⟨y174, hy174⟩ : ∃ y_ : List ByteArray, y_ = (([(⟨#[120]⟩ : ByteArray), (⟨#[121]⟩ : ByteArray), (⟨#[78]⟩ : ByteArray), (⟨#[102]⟩ : ByteArray), (⟨#[95]⟩ : ByteArray), (⟨#[]⟩ : ByteArray)] : List ByteArray)) := ⟨_, rfl⟩
             replace H : ((fm_Tape_Next.f s0_0 t171 ((([(⟨#[120]⟩ : ByteArray), (⟨#[121]⟩ : ByteArray), (⟨#[78]⟩ : ByteArray), (⟨#[102]⟩ : ByteArray), (⟨#[95]⟩ : ByteArray), (⟨#[]⟩ : ByteArray)] : List ByteArray)).length : Int)).bind fun bt180 => (if 0 ≤ bt180.1 then (if bt180.1 < (y174.length : Int) then ((fm_Term.f kj21 s0_0 bt180.2 (wrap64 (a1 - 1)) (wrap64 (a2 + 1)) a3).bind fun bt183 => (some (x10_21, rdOf ByteArray.empty y174 bt180.1, 0, (([(⟨bt183.1, bt183.2.1, bt183.2.2.1, bt183.2.2.2.1⟩ : S25)] : List (S25))), bt183.2.2.2.2))) else (none)) else (none))) = some (r1, r2, r3, r4, r5) := by first | (rw [hy174]; with_reducible exact H) | (have H2_ := (Option.bind_some _ _).symm.trans H; rw [hy174]; with_reducible exact H2_) | (have H2_ := (Option.bind_some _ _).symm.trans H; with_reducible exact H2_) | with_reducible exact H | (rw [hy174]; exact H) | exact H
             have Ny174 := yJ hy174;clear hy174
             obtain ⟨y177, hy177⟩ : ∃ y_ : List ByteArray, y_ = (([(⟨#[120]⟩ : ByteArray), (⟨#[121]⟩ : ByteArray), (⟨#[78]⟩ : ByteArray), (⟨#[102]⟩ : ByteArray), (⟨#[95]⟩ : ByteArray), (⟨#[]⟩ : ByteArray)] : List ByteArray)) := ⟨_, rfl⟩
             replace H : ((fm_Tape_Next.f s0_0 t171 (y177.length : Int)).bind fun bt180 => (if 0 ≤ bt180.1 then (if bt180.1 < (y174.length : Int) then ((fm_Term.f kj21 s0_0 bt180.2 (wrap64 (a1 - 1)) (wrap64 (a2 + 1)) a3).bind fun bt183 => (some (x10_21, rdOf ByteArray.empty y174 bt180.1, 0, (([(⟨bt183.1, bt183.2.1, bt183.2.2.1, bt183.2.2.2.1⟩ : S25)] : List (S25))), bt183.2.2.2.2))) else (none)) else (none))) = some (r1, r2, r3, r4, r5) := by first | (rw [hy177]; with_reducible exact H) | (have H2_ := (Option.bind_some _ _).symm.trans H; rw [hy177]; with_reducible exact H2_) | (have H2_ := (Option.bind_some _ _).symm.trans H; with_reducible exact H2_) | with_reducible exact H | (rw [hy177]; exact H) | exact H
             have Ny177 := yJ hy177;clear hy177;replace H := yK H
             obtain ⟨⟨t180, t181⟩, A300, H⟩ := H
             replace H : (if 0 ≤ t180 then (if t180 < (y174.length : Int) then ((fm_Term.f kj21 s0_0 t181 (wrap64 (a1 - 1)) (wrap64 (a2 + 1)) a3).bind fun bt183 => (some (x10_21, rdOf ByteArray.empty y174 t180, 0, (([(⟨bt183.1, bt183.2.1, bt183.2.2.1, bt183.2.2.2.1⟩ : S25)] : List (S25))), bt183.2.2.2.2))) else (none)) else (none)) = some (r1, r2, r3, r4, r5) := H
             have A30 := yJ A300;clear A300
             by_cases c31 : 0 ≤ t180
             ·rw [if_pos c31] at H
              have c31b0 : decide (0 ≤ t180) = true := decide_eq_true c31
              clear c31
              by_cases c32 : t180 < (y174.length : Int)
              ·rw [if_pos c32] at H
               have c32b0 : decide (t180 < (y174.length : Int)) = true := decide_eq_true c32
               clear c32;replace H := yK H
               obtain ⟨⟨t183, t184, t185, t186, t189⟩, A330, H⟩ := H
               replace H : (some (x10_21, rdOf ByteArray.empty y174 t180, 0, (([(⟨t183, t184, t185, t186⟩ : S25)] : List (S25))), t189)) = some (r1, r2, r3, r4, r5) := H
               have A33 := yJ A330;clear A330
               obtain ⟨y190, hy190⟩ : ∃ y_ : List (S25), y_ = (([(⟨t183, t184, t185, t186⟩ : S25)] : List (S25))) := ⟨_, rfl⟩
               replace H : (some (x10_21, rdOf ByteArray.empty y174 t180, 0, y190, t189)) = some (r1, r2, r3, r4, r5) := by first | (rw [hy190]; with_reducible exact H) | (have H2_ := (Option.bind_some _ _).symm.trans H; rw [hy190]; with_reducible exact H2_) | (have H2_ := (Option.bind_some _ _).symm.trans H; with_reducible exact H2_) | with_reducible exact H | (rw [hy190]; exact H) | exact H
               have Ny190 := yJ hy190;clear hy190
               simp only [Option.some.injEq, Prod.mk.injEq] at H
               obtain ⟨rfl, rfl, rfl, rfl, rfl⟩ := H
               try go_wp2
               have pi182 : (0 ≤ (t180 : Int)) = True := eq_true (of_decide_eq_true (by first | (with_reducible assumption) | assumption))
               have qi182 : (t180 < (y174.length : Int)) = True := eq_true (of_decide_eq_true (by first | (with_reducible assumption) | assumption))
               have n0_ : Aside0 (((((w25.setCell ⟨gb173, 0, none⟩ (.int .i64 x10_21)).setCell ⟨gb173, 1, none⟩ (.string (⟨#[]⟩ : ByteArray))).setCell ⟨gb173, 2, none⟩ (.int .i64 0)).setCell ⟨gb173, 3, none⟩ (.slice none 0 0)).heap[gb166]? = some (.cells #[.int .i64 0, .string (⟨#[]⟩ : ByteArray), .int .i64 0, .slice none 0 0] 25 (0, 0))) := ⟨pk BK166.out⟩
               have n1_ : Aside0 (((((w25.setCell ⟨gb173, 0, none⟩ (.int .i64 x10_21)).setCell ⟨gb173, 1, none⟩ (.string (⟨#[]⟩ : ByteArray))).setCell ⟨gb173, 2, none⟩ (.int .i64 0)).setCell ⟨gb173, 3, none⟩ (.slice none 0 0)).heap[gb173]? = some (.cells #[.int .i64 x10_21, .string (⟨#[]⟩ : ByteArray), .int .i64 0, .slice none 0 0] 25 (0, 0))) := ⟨by (with_reducible repeat (first | refine yA ?_ _ | refine yB ?_ | refine yC ?_ _)); refine blk_put (cs := #[.int .i64 x10_21, .string (⟨#[]⟩ : ByteArray), .int .i64 0, .slice none 0 0]) ?_ 3 _ rfl; (with_reducible repeat (first | refine yA ?_ _ | refine yB ?_ | refine yC ?_ _)); refine blk_put (cs := #[.int .i64 x10_21, .string (⟨#[]⟩ : ByteArray), .int .i64 0, .slice none 0 0]) ?_ 2 _ rfl; (with_reducible repeat (first | refine yA ?_ _ | refine yB ?_ | refine yC ?_ _)); refine blk_put (cs := #[.int .i64 x10_21, .string (⟨#[]⟩ : ByteArray), .int .i64 0, .slice none 0 0]) ?_ 1 _ rfl; (with_reducible repeat (first | refine yA ?_ _ | refine yB ?_ | refine yC ?_ _)); refine blk_put (cs := #[.int .i64 0, .string (⟨#[]⟩ : ByteArray), .int .i64 0, .slice none 0 0]) ?_ 0 _ rfl; (with_reducible repeat (first | refine yA ?_ _ | refine yB ?_ | refine yC ?_ _)); exact BK173.out⟩
               have n2_ : Aside0 (IsS46 w0 ((((w25.setCell ⟨gb173, 0, none⟩ (.int .i64 x10_21)).setCell ⟨gb173, 1, none⟩ (.string (⟨#[]⟩ : ByteArray))).setCell ⟨gb173, 2, none⟩ (.int .i64 0)).setCell ⟨gb173, 3, none⟩ (.slice none 0 0)) g s0_0 t171) := ⟨by repeat (first | (with_reducible first | exact HI0.out | apply IsS46.alloc | apply IsS46.drewN | apply IsS46.drew | apply IsS46.set_1 | refine IsS46.far ?_ NB0_166.out _ | refine IsS46.far ?_ NB0_173.out _) | exact HI0.out)⟩
               have n3_ : Aside0 (KeepBut w ((((w25.setCell ⟨gb173, 0, none⟩ (.int .i64 x10_21)).setCell ⟨gb173, 1, none⟩ (.string (⟨#[]⟩ : ByteArray))).setCell ⟨gb173, 2, none⟩ (.int .i64 0)).setCell ⟨gb173, 3, none⟩ (.slice none 0 0)) g none) := ⟨by repeat (first | (with_reducible first | exact HK.out | apply KeepBut.set_ | apply keep_drewN | apply keep_drew | apply keep_alloc | refine keep_far ?_ GW166.out _ | refine keep_far ?_ GW173.out _) | exact HK.out)⟩
               have n4_ : Aside0 (Below w0.heap.size w0 ((((w25.setCell ⟨gb173, 0, none⟩ (.int .i64 x10_21)).setCell ⟨gb173, 1, none⟩ (.string (⟨#[]⟩ : ByteArray))).setCell ⟨gb173, 2, none⟩ (.int .i64 0)).setCell ⟨gb173, 3, none⟩ (.slice none 0 0))) := ⟨by repeat (first | (with_reducible first | exact HB.out | apply yF | apply yG | apply yH | refine yI ?_ (IsS46.ge HI0.out) | refine yI ?_ GE166.out | refine yI ?_ GE173.out) | exact HB.out)⟩
               (try clear BK166);(try clear BK173);(try clear HI0);(try clear HK);(try clear HB)
               generalize ((((w25.setCell ⟨gb173, 0, none⟩ (.int .i64 x10_21)).setCell ⟨gb173, 1, none⟩ (.string (⟨#[]⟩ : ByteArray))).setCell ⟨gb173, 2, none⟩ (.int .i64 0)).setCell ⟨gb173, 3, none⟩ (.slice none 0 0)) = w34 at n0_ n1_ n2_ n3_ n4_ ⊢
               have BK166 := n0_;have BK173 := n1_;have HI0 := n2_;have HK := n3_;have HB := n4_;clear n0_ n1_ n2_ n3_ n4_
               have n0_ := yJ (yB BK166.out)
               have n1_ := yJ (yB BK173.out)
               have n2_ := yJ (IsS46.drew HI0.out)
               have n3_ := yJ (keep_drew HK.out)
               have n4_ := yJ (yH HB.out)
               clear BK166 BK173 HI0 HK HB;have BK166 := n0_;have BK173 := n1_;have HI0 := n2_;have HK := n3_;have HB := n4_;clear n0_ n1_ n2_ n3_ n4_
               refine start_ (n := 9) (S := fun w' => True) (ds := []) #[false, false, false, false, false, false, false, false, false] (by kernel_rfl) rfl rfl trivial (fun hHeld => ?_); refine with_tabW fm_Term.tab10 fm_Term.bits10 (fun HT_ HW_ => ?_)
               generalize w34.drew = w35 at BK166 BK173 HI0 HK HB hHeld ⊢
               refine pure_ (i := 1) (N := some 47) (v := ?_) (a' := ?_) #[false, true, false, false, false, false, false, false, false] rfl rfl (any_of HT_.out (by kernel_rfl)) (fun _ _ _ h => h) (Or.inl ⟨by rfl, ?_⟩) ?_ ?_
               rotate_left
               ·intro w'
                go_simp;with_reducible rfl
               rotate_left
               ·simp only [Act.put, List.setIfInBounds_toArray, List.set_cons_zero, List.set_cons_succ, i64_w, i32_w]
                rfl
               refine inv_at [0, 2, 3, 4, 5, 6, 7, 8] (fun a0_ b a w' => ∃ (v175 : Value) (adz_v175 : Addr) (v178 : Value) (m5_ : Value), a = putSel a0_ b [(0, 46, v175), (2, 48, v178), (3, 49, .int .i64 (y177.length : Int)), (4, 50, .int .i64 t180), (5, 51, m5_), (6, 52, .string (rdOf ByteArray.empty y174 t180)), (7, 53, .pointer (some ⟨gb173, 1, none⟩))] ∧ (w'.heap[gb166]? = some (.cells #[.int .i64 0, .string (⟨#[]⟩ : ByteArray), .int .i64 0, .slice none 0 0] 25 (0, 0))) ∧ (b 8 = false → w'.heap[gb173]? = some (.cells #[.int .i64 x10_21, .string (⟨#[]⟩ : ByteArray), .int .i64 0, .slice none 0 0] 25 (0, 0))) ∧ (b 4 = false → IsS46 w0 w' g s0_0 t171) ∧ (KeepBut w w' g none) ∧ (Below w0.heap.size w0 w') ∧ (b 0 = true → (v175 : Value) = .slice (some NA) y174.length Nc) ∧ (b 0 = true → ∃ c_, (v175 : Value) = .slice (some adz_v175) y174.length c_) ∧ (b 2 = true → (v178 : Value) = .slice (some NA) y177.length Nc) ∧ (b 4 = true → IsS46 w0 w' g s0_0 t181) ∧ (b 8 = true → w'.heap[gb173]? = some (.cells #[.int .i64 x10_21, .string (rdOf ByteArray.empty y174 t180), .int .i64 0, .slice none 0 0] 25 (0, 0))) ∧ (b 5 = true → (m5_ : Value) = .pointer (some (adz_v175.add (t180).toNat)))) HT_.out HW_.out (by kernel_rfl) (by kernel_rfl) ?_ ?_ ?_
               ·exact ⟨.bool false, ⟨0, 0, none⟩, .bool false, .bool false, by simp only [putSel, Bool.false_eq_true, if_false], BK166.out, fun _ => BK173.out, fun _ => HI0.out, HK.out, HB.out, fun h_ => absurd h_ (by decide), fun h_ => absurd h_ (by decide), fun h_ => absurd h_ (by decide), fun h_ => absurd h_ (by decide), fun h_ => absurd h_ (by decide), fun h_ => absurd h_ (by decide)⟩
               ·skip
                clear BK166 BK173 HB HI0 HK
                refine steps_cons ?_ ?_
                ·rintro b a w' ⟨v175, adz_v175, v178, m5_, ha, Q_BK166, Q_BK173, Q_HI0, Q_HK, Q_HB, Q_HO176, Q_HA_HO176, Q_HO179, Q_HI0_e4, Q_BK173_e8, Q_X5_⟩ hb_ hon hoff
                 refine ⟨_, rfl, fun K hK => ?_⟩
                 replace ha := yJ ha
                 have BK166 := yJ Q_BK166
                 have BK173 := yJ (Q_BK173 (hoff 8 (by kernel_rfl)))
                 have HK := yJ Q_HK;have HB := yJ Q_HB
                 have hNw := HN.out.below Q_HB
                 have hNc : w'.cell? ⟨0, 0, none⟩ = some (.slice (some NA) y174.length Nc) := by rw [Ny174.out]; exact hNw.cell
                 refine value_ (w1 := w') (v := .slice (some NA) y174.length Nc) (by rfl) rfl ?_ ?_
                 ·go_simp
                  try rfl
                 refine hK.out _ _ ⟨.slice (some NA) y174.length Nc, NA, v178, m5_, (by rw [ha.out]; exact putSel_upk 0 hb_ rfl rfl rfl), Q_BK166, Q_BK173, Q_HI0, Q_HK, Q_HB, fun _ => rfl, fun _ => ⟨_, rfl⟩, Q_HO179, Q_HI0_e4, fun h0_ => absurd ((hoff 8 (by kernel_rfl)).symm.trans h0_) (by decide), fun h0_ => absurd ((hoff 5 (by kernel_rfl)).symm.trans h0_) (by decide)⟩
                refine steps_cons ?_ ?_
                ·rintro b a w' ⟨v175, adz_v175, v178, m5_, ha, Q_BK166, Q_BK173, Q_HI0, Q_HK, Q_HB, Q_HO176, Q_HA_HO176, Q_HO179, Q_HI0_e4, Q_BK173_e8, Q_X5_⟩ hb_ hon hoff
                 refine ⟨_, rfl, fun K hK => ?_⟩
                 replace ha := yJ ha
                 have BK166 := yJ Q_BK166
                 have BK173 := yJ (Q_BK173 (hoff 8 (by kernel_rfl)))
                 have HI0 := yJ (Q_HI0 (hoff 4 (by kernel_rfl)))
                 have HK := yJ Q_HK;have HB := yJ Q_HB
                 have hNw := HN.out.below Q_HB
                 have hNc : w'.cell? ⟨0, 0, none⟩ = some (.slice (some NA) y177.length Nc) := by rw [Ny177.out]; exact hNw.cell
                 refine value_ (w1 := w') (v := .slice (some NA) y177.length Nc) (by rfl) rfl ?_ ?_
                 ·go_simp
                  try rfl
                 refine hK.out _ _ ⟨v175, adz_v175, .slice (some NA) y177.length Nc, m5_, (by rw [ha.out]; exact putSel_upk 1 hb_ rfl rfl rfl), Q_BK166, Q_BK173, Q_HI0, Q_HK, Q_HB, Q_HO176, Q_HA_HO176, fun _ => rfl, fun h0_ => absurd ((hoff 4 (by kernel_rfl)).symm.trans h0_) (by decide), fun h0_ => absurd ((hoff 8 (by kernel_rfl)).symm.trans h0_) (by decide), fun h0_ => absurd ((hoff 5 (by kernel_rfl)).symm.trans h0_) (by decide)⟩
                refine steps_cons ?_ ?_
                ·rintro b a w' ⟨v175, adz_v175, v178, m5_, ha, Q_BK166, Q_BK173, Q_HI0, Q_HK, Q_HB, Q_HO176, Q_HA_HO176, Q_HO179, Q_HI0_e4, Q_BK173_e8, Q_X5_⟩ hb_ hon hoff
                 refine ⟨_, rfl, fun K hK => ?_⟩
                 have e48 : a.tmps[48]? = some (v178) := by rw [ha]; exact putSel_on (e := (2, 48, v178)) 1 rfl rfl (hon 2 (by kernel_rfl)) rfl
                 replace ha := yJ ha
                 have BK166 := yJ Q_BK166
                 have BK173 := yJ (Q_BK173 (hoff 8 (by kernel_rfl)))
                 have HI0 := yJ (Q_HI0 (hoff 4 (by kernel_rfl)))
                 have HK := yJ Q_HK;have HB := yJ Q_HB
                 have HO179 := yJ (Q_HO179 (hon 2 (by kernel_rfl)))
                 obtain ⟨Ao3_0, co3_0, eo_⟩ := RN_slice HO179.out
                 subst eo_
                 refine value_ (w1 := w') (v := .int .i64 (y177.length : Int)) (by rfl) rfl ?_ ?_
                 ·go_simp
                  (try simp only [i64_w])
                  try rfl
                 refine hK.out _ _ ⟨v175, adz_v175, .slice Ao3_0 y177.length co3_0, m5_, (by rw [ha.out]; exact putSel_upk 2 hb_ rfl rfl rfl), Q_BK166, Q_BK173, Q_HI0, Q_HK, Q_HB, Q_HO176, Q_HA_HO176, Q_HO179, fun h0_ => absurd ((hoff 4 (by kernel_rfl)).symm.trans h0_) (by decide), fun h0_ => absurd ((hoff 8 (by kernel_rfl)).symm.trans h0_) (by decide), fun h0_ => absurd ((hoff 5 (by kernel_rfl)).symm.trans h0_) (by decide)⟩
                refine steps_cons ?_ ?_
                ·rintro b a w' ⟨v175, adz_v175, v178, m5_, ha, Q_BK166, Q_BK173, Q_HI0, Q_HK, Q_HB, Q_HO176, Q_HA_HO176, Q_HO179, Q_HI0_e4, Q_BK173_e8, Q_X5_⟩ hb_ hon hoff
                 refine ⟨_, rfl, fun K hK => ?_⟩
                 have e47 : a.tmps[47]? = some (.pointer (some ⟨g, 0, none⟩)) := by rw [ha]; exact (putSel_off rfl).trans rfl
                 have e49 : a.tmps[49]? = some (.int .i64 (y177.length : Int)) := by rw [ha]; exact putSel_on (e := (3, 49, .int .i64 (y177.length : Int))) 2 rfl rfl (hon 3 (by kernel_rfl)) rfl
                 replace ha := yJ ha
                 have BK166 := yJ Q_BK166
                 have BK173 := yJ (Q_BK173 (hoff 8 (by kernel_rfl)))
                 have HI0 := yJ (Q_HI0 hb_)
                 have HK := yJ Q_HK;have HB := yJ Q_HB
                 have HO179 := yJ (Q_HO179 (hon 2 (by kernel_rfl)))
                 obtain ⟨Ao40, co40, eo40⟩ := RN_slice HO179.out
                 (first | subst eo40 | (injection eo40 with f1_ f2_ f3_; have f4_ := f1_.symm; have f5_ := f3_.symm; clear f1_ f2_ f3_; subst f4_; subst f5_))
                 refine goes_ Tryd.func90 (by kernel_rfl) rfl #[.pointer (some ⟨g, 0, none⟩), .int .i64 (y177.length : Int)] (by rfl) rfl rfl (by first | (simp only [List.map_toArray, List.map_cons, List.map_nil, Act.eval, Array.getD_eq_getD_getElem?, Option.getD_some, e47, e49]; done) | (simp only [List.map_toArray, List.map_cons, List.map_nil, Act.eval, Array.getD_eq_getD_getElem?, Option.getD_some, e47, e49]; rfl)) ?_
                 with_reducible refine (fm_Tape_Next.calls g s0_0 t171 (y177.length : Int) t180 t181 w0 _ ?side1 ?side2 A30.out).mono ?_
                 (case side1 => repeat (first | (with_reducible first | exact HI0.out | apply IsS46.alloc | apply IsS46.drewN | apply IsS46.drew | apply IsS46.set_1 | refine IsS46.far ?_ NB0_166.out _ | refine IsS46.far ?_ NB0_173.out _) | exact HI0.out))
                 (case side2 => repeat (first | (with_reducible first | exact HB.out | apply yF | apply yG | apply yH | refine yI ?_ (IsS46.ge HI0.out) | refine yI ?_ GE166.out | refine yI ?_ GE173.out) | exact HB.out))
                 rintro e w41 ⟨rfl, hi, hb, hk⟩
                 refine ⟨_, rfl, ?_⟩
                 have n0_ := yJ (KeepBut.blk hk (g' := gb166) (o := .cells #[.int .i64 0, .string (⟨#[]⟩ : ByteArray), .int .i64 0, .slice none 0 0] 25 (0, 0)) (pk BK166.out) NB166_0.out (by simp))
                 have n1_ := yJ (KeepBut.blk hk (g' := gb173) (o := .cells #[.int .i64 x10_21, .string (⟨#[]⟩ : ByteArray), .int .i64 0, .slice none 0 0] 25 (0, 0)) (pk BK173.out) NB173_0.out (by simp))
                 have n2_ := yJ HO179.out
                 have n3_ := yJ (KeepBut.trans (by repeat (first | (with_reducible first | exact HK.out | apply KeepBut.set_ | apply keep_drewN | apply keep_drew | apply keep_alloc | refine keep_far ?_ GW166.out _ | refine keep_far ?_ GW173.out _) | exact HK.out)) hk (.inl rfl))
                 have n4_ := yJ (hb)
                 have n5_ := yJ (hi)
                 have z_HO176 := Q_HO176;clear BK166 BK173 HO179 HK HB HI0;have BK166 := n0_;have BK173 := n1_;have HO179 := n2_;have HK := n3_;have HB := n4_;have HI0 := n5_;clear n0_ n1_ n2_ n3_ n4_ n5_;(try clear hb);(try clear hb2);(try clear hk);(try clear hi)
                 refine hK.out _ _ ⟨v175, adz_v175, .slice Ao40 y177.length co40, m5_, (by rw [ha.out]; exact putSel_upk 3 hb_ rfl rfl rfl), (pk BK166.out), fun _ => (pk BK173.out), fun h0_ => absurd ((up_self b 4).symm.trans h0_) (by decide), (by repeat (first | (with_reducible first | exact HK.out | apply KeepBut.set_ | apply keep_drewN | apply keep_drew | apply keep_alloc | refine keep_far ?_ GW166.out _ | refine keep_far ?_ GW173.out _) | exact HK.out)), (by repeat (first | (with_reducible first | exact HB.out | apply yF | apply yG | apply yH | refine yI ?_ (IsS46.ge HI0.out) | refine yI ?_ GE166.out | refine yI ?_ GE173.out) | exact HB.out)), z_HO176, Q_HA_HO176, fun _ => HO179.out, fun _ => (by repeat (first | (with_reducible first | exact HI0.out | apply IsS46.alloc | apply IsS46.drewN | apply IsS46.drew | apply IsS46.set_1 | refine IsS46.far ?_ NB0_166.out _ | refine IsS46.far ?_ NB0_173.out _) | exact HI0.out)), fun h0_ => absurd ((hoff 8 (by kernel_rfl)).symm.trans h0_) (by decide), fun h0_ => absurd ((hoff 5 (by kernel_rfl)).symm.trans h0_) (by decide)⟩
                refine steps_cons ?_ ?_
                ·rintro b a w' ⟨v175, adz_v175, v178, m5_, ha, Q_BK166, Q_BK173, Q_HI0, Q_HK, Q_HB, Q_HO176, Q_HA_HO176, Q_HO179, Q_HI0_e4, Q_BK173_e8, Q_X5_⟩ hb_ hon hoff
                 refine ⟨_, rfl, fun K hK => ?_⟩
                 have e46 : a.tmps[46]? = some (v175) := by rw [ha]; exact putSel_on (e := (0, 46, v175)) 0 rfl rfl (hon 0 (by kernel_rfl)) rfl
                 have e50 : a.tmps[50]? = some (.int .i64 t180) := by rw [ha]; exact putSel_on (e := (4, 50, .int .i64 t180)) 3 rfl rfl (hon 4 (by kernel_rfl)) rfl
                 replace ha := yJ ha
                 have BK166 := yJ Q_BK166
                 have BK173 := yJ (Q_BK173 (hoff 8 (by kernel_rfl)))
                 have HK := yJ Q_HK;have HB := yJ Q_HB
                 have HO176 := yJ (Q_HO176 (hon 0 (by kernel_rfl)))
                 have HA_HO176 := yJ (Q_HA_HO176 (hon 0 (by kernel_rfl)))
                 have HO179 := yJ (Q_HO179 (hon 2 (by kernel_rfl)))
                 have HI0 := yJ (Q_HI0_e4 (hon 4 (by kernel_rfl)))
                 obtain ⟨c_, hv_⟩ := HA_HO176.out
                 rw [hv_] at e46
                 refine value_ (w1 := w') (v := .pointer (some (adz_v175.add (t180).toNat))) (by rfl) rfl ?_ ?_
                 ·go_simp
                  (try simp only [i64_w])
                  try rfl
                 refine hK.out _ _ ⟨v175, adz_v175, v178, (.pointer (some (adz_v175.add (t180).toNat))), (by rw [ha.out]; exact putSel_upk 4 hb_ rfl rfl rfl), Q_BK166, Q_BK173, fun h0_ => absurd ((hon 4 (by kernel_rfl)).symm.trans h0_) (by decide), Q_HK, Q_HB, Q_HO176, Q_HA_HO176, Q_HO179, Q_HI0_e4, fun h0_ => absurd ((hoff 8 (by kernel_rfl)).symm.trans h0_) (by decide), fun _ => rfl⟩
                refine steps_cons ?_ ?_
                ·rintro b a w' ⟨v175, adz_v175, v178, m5_, ha, Q_BK166, Q_BK173, Q_HI0, Q_HK, Q_HB, Q_HO176, Q_HA_HO176, Q_HO179, Q_HI0_e4, Q_BK173_e8, Q_X5_⟩ hb_ hon hoff
                 refine ⟨_, rfl, fun K hK => ?_⟩
                 have e51 : a.tmps[51]? = some (m5_) := by rw [ha]; exact putSel_on (e := (5, 51, m5_)) 4 rfl rfl (hon 5 (by kernel_rfl)) rfl
                 rw [Q_X5_ (hon 5 (by kernel_rfl))] at e51
                 replace ha := yJ ha
                 have BK166 := yJ Q_BK166
                 have BK173 := yJ (Q_BK173 (hoff 8 (by kernel_rfl)))
                 have HK := yJ Q_HK;have HB := yJ Q_HB
                 have HO176 := yJ (Q_HO176 (hon 0 (by kernel_rfl)))
                 have HA_HO176 := yJ (Q_HA_HO176 (hon 0 (by kernel_rfl)))
                 have HO179 := yJ (Q_HO179 (hon 2 (by kernel_rfl)))
                 have HI0 := yJ (Q_HI0_e4 (hon 4 (by kernel_rfl)))
                 obtain ⟨c_, hv_⟩ := HA_HO176.out
                 have hF_ := HO176.out
                 rw [hv_] at hF_
                 obtain ⟨ad_, ea_, hx_⟩ := Kd.at_string (names_reads (HN.out.below Q_HB) Ny174.out hF_) t180 (of_eq_true pi182) (of_eq_true qi182)
                 cases ea_
                 refine value_ (w1 := w') (v := .string (rdOf ByteArray.empty y174 t180)) (by rfl) rfl ?_ ?_
                 ·go_simp
                  (try simp only [i64_w])
                  try rfl
                 refine hK.out _ _ ⟨v175, adz_v175, v178, m5_, (by rw [ha.out]; exact putSel_upk 5 hb_ rfl rfl rfl), Q_BK166, Q_BK173, fun h0_ => absurd ((hon 4 (by kernel_rfl)).symm.trans h0_) (by decide), Q_HK, Q_HB, Q_HO176, Q_HA_HO176, Q_HO179, Q_HI0_e4, fun h0_ => absurd ((hoff 8 (by kernel_rfl)).symm.trans h0_) (by decide), Q_X5_⟩
                refine steps_cons ?_ ?_
                ·rintro b a w' ⟨v175, adz_v175, v178, m5_, ha, Q_BK166, Q_BK173, Q_HI0, Q_HK, Q_HB, Q_HO176, Q_HA_HO176, Q_HO179, Q_HI0_e4, Q_BK173_e8, Q_X5_⟩ hb_ hon hoff
                 refine ⟨_, rfl, fun K hK => ?_⟩
                 have e11 : a.tmps[11]? = some (.pointer (some ⟨gb173, 0, none⟩)) := by rw [ha]; exact (putSel_off rfl).trans rfl
                 replace ha := yJ ha
                 have BK166 := yJ Q_BK166
                 have BK173 := yJ (Q_BK173 (hoff 8 (by kernel_rfl)))
                 have HK := yJ Q_HK;have HB := yJ Q_HB
                 have HO176 := yJ (Q_HO176 (hon 0 (by kernel_rfl)))
                 have HA_HO176 := yJ (Q_HA_HO176 (hon 0 (by kernel_rfl)))
                 have HO179 := yJ (Q_HO179 (hon 2 (by kernel_rfl)))
                 have HI0 := yJ (Q_HI0_e4 (hon 4 (by kernel_rfl)))
                 refine value_ (w1 := w') (v := .pointer (some ⟨gb173, 1, none⟩)) (by rfl) rfl ?_ ?_
                 ·go_simp
                  (try simp only [i64_w])
                  try rfl
                 refine hK.out _ _ ⟨v175, adz_v175, v178, m5_, (by rw [ha.out]; exact putSel_upk 6 hb_ rfl rfl rfl), Q_BK166, Q_BK173, fun h0_ => absurd ((hon 4 (by kernel_rfl)).symm.trans h0_) (by decide), Q_HK, Q_HB, Q_HO176, Q_HA_HO176, Q_HO179, Q_HI0_e4, fun h0_ => absurd ((hoff 8 (by kernel_rfl)).symm.trans h0_) (by decide), Q_X5_⟩
                refine steps_cons ?_ ?_
                ·rintro b a w' ⟨v175, adz_v175, v178, m5_, ha, Q_BK166, Q_BK173, Q_HI0, Q_HK, Q_HB, Q_HO176, Q_HA_HO176, Q_HO179, Q_HI0_e4, Q_BK173_e8, Q_X5_⟩ hb_ hon hoff
                 refine ⟨_, rfl, fun K hK => ?_⟩
                 have e53 : a.tmps[53]? = some (.pointer (some ⟨gb173, 1, none⟩)) := by rw [ha]; exact putSel_on (e := (7, 53, .pointer (some ⟨gb173, 1, none⟩))) 6 rfl rfl (hon 7 (by kernel_rfl)) rfl
                 have e52 : a.tmps[52]? = some (.string (rdOf ByteArray.empty y174 t180)) := by rw [ha]; exact putSel_on (e := (6, 52, .string (rdOf ByteArray.empty y174 t180))) 5 rfl rfl (hon 6 (by kernel_rfl)) rfl
                 replace ha := yJ ha
                 have BK166 := yJ Q_BK166
                 have BK173 := yJ (Q_BK173 hb_)
                 have HK := yJ Q_HK;have HB := yJ Q_HB
                 have HO176 := yJ (Q_HO176 (hon 0 (by kernel_rfl)))
                 have HA_HO176 := yJ (Q_HA_HO176 (hon 0 (by kernel_rfl)))
                 have HO179 := yJ (Q_HO179 (hon 2 (by kernel_rfl)))
                 have HI0 := yJ (Q_HI0_e4 (hon 4 (by kernel_rfl)))
                 obtain ⟨co44, eo44⟩ := HA_HO176.out
                 clear HA_HO176;subst eo44
                 obtain ⟨Ao45, co45, eo45⟩ := RN_slice HO179.out
                 (first | subst eo45 | (injection eo45 with f1_ f2_ f3_; have f4_ := f1_.symm; have f5_ := f3_.symm; clear f1_ f2_ f3_; subst f4_; subst f5_))
                 have hs46 : w'.cell? ⟨gb173, 1, none⟩ = some (.string (⟨#[]⟩ : ByteArray)) := (yE BK173.out 1).trans rfl
                 have hfs46 := yD BK173.out 1
                 have hns46_0 := NB166_173.out;have hms46_0 := NB173_166.out
                 refine skip_ (w1 := ?_) (by rfl) rfl ?_ ?_
                 rotate_left
                 ·go_simp
                  rfl
                 refine hK.out _ _ ⟨.slice (some adz_v175) y174.length co44, adz_v175, .slice Ao45 y177.length co45, m5_, (by rw [ha.out]; exact putSel_none (v := undef) rfl), (pk BK166.out), fun h0_ => absurd ((up_self b 8).symm.trans h0_) (by decide), fun h0_ => absurd ((hon 4 (by kernel_rfl)).symm.trans h0_) (by decide), (by repeat (first | (with_reducible first | exact HK.out | apply KeepBut.set_ | apply keep_drewN | apply keep_drew | apply keep_alloc | refine keep_far ?_ GW166.out _ | refine keep_far ?_ GW173.out _) | exact HK.out)), (by repeat (first | (with_reducible first | exact HB.out | apply yF | apply yG | apply yH | refine yI ?_ (IsS46.ge HI0.out) | refine yI ?_ GE166.out | refine yI ?_ GE173.out) | exact HB.out)), fun _ => HO176.out, fun _ => ⟨_, rfl⟩, fun _ => HO179.out, fun _ => (by repeat (first | (with_reducible first | exact HI0.out | apply IsS46.alloc | apply IsS46.drewN | apply IsS46.drew | apply IsS46.set_1 | refine IsS46.far ?_ NB0_166.out _ | refine IsS46.far ?_ NB0_173.out _) | exact HI0.out)), fun _ => (by (with_reducible repeat (first | refine yA ?_ _ | refine yB ?_ | refine yC ?_ _)); refine blk_put (cs := #[.int .i64 x10_21, .string (⟨#[]⟩ : ByteArray), .int .i64 0, .slice none 0 0]) ?_ 1 _ rfl; (with_reducible repeat (first | refine yA ?_ _ | refine yB ?_ | refine yC ?_ _)); exact BK173.out), Q_X5_⟩
                exact steps_nil
               rintro b a w44 hall ⟨v175, adz_v175, v178, m5_, ha, Q_BK166, Q_BK173, Q_HI0, Q_HK, Q_HB, Q_HO176, Q_HA_HO176, Q_HO179, Q_HI0_e4, Q_BK173_e8, Q_X5_⟩
               clear BK166 BK173 HB HI0 HK
               have hb0_ := hall 0 (by kernel_rfl)
               have hb2_ := hall 2 (by kernel_rfl)
               have hb3_ := hall 3 (by kernel_rfl)
               have hb4_ := hall 4 (by kernel_rfl)
               have hb5_ := hall 5 (by kernel_rfl)
               have hb6_ := hall 6 (by kernel_rfl)
               have hb7_ := hall 7 (by kernel_rfl)
               have hb8_ := hall 8 (by kernel_rfl)
               subst ha
               obtain rfl := Q_X5_ hb5_
               simp only [putSel, hb0_, hb2_, hb3_, hb4_, hb5_, hb6_, hb7_, hb8_, if_true, Act.put, List.setIfInBounds_toArray, List.set_cons_zero, List.set_cons_succ]
               have BK166 := yJ Q_BK166;clear Q_BK166 Q_BK173 Q_HI0;have HK := yJ Q_HK;clear Q_HK;have HB := yJ Q_HB;clear Q_HB
               have HO176 := yJ (Q_HO176 hb0_)
               clear Q_HO176
               have HA_HO176 := yJ (Q_HA_HO176 hb0_)
               clear Q_HA_HO176
               have HO179 := yJ (Q_HO179 hb2_)
               clear Q_HO179
               have HI0 := yJ (Q_HI0_e4 hb4_)
               clear Q_HI0_e4
               have BK173 := yJ (Q_BK173_e8 hb8_)
               clear Q_BK173_e8 hall hb0_ hb2_ hb3_ hb4_ hb5_ hb6_ hb7_ hb8_
               obtain ⟨co45, eo45⟩ := HA_HO176.out
               clear HA_HO176;subst eo45
               obtain ⟨Ao46, co46, eo46⟩ := RN_slice HO179.out
               (first | subst eo46 | (injection eo46 with f1_ f2_ f3_; have f4_ := f1_.symm; have f5_ := f3_.symm; clear f1_ f2_ f3_; subst f4_; subst f5_))
               clear HO176
               have HO176 := yJ (Kd.R_nil Kd.string 9 w44 w.heap.size (fun k_ => (w.heap.size ≤ k_)))
               clear HO179
               have HO179 := yJ (Kd.R_nil Kd.string 9 w44 w.heap.size (fun k_ => (w.heap.size ≤ k_)))
               try go_wp2_with (first | ((with_reducible refine gate_callee (f := 45) rfl ?_); refine goesL_ (some 60) rfl rfl Tryd.func45 (by kernel_rfl) rfl #[.pointer (some ⟨g, 0, none⟩), .int .i64 (wrap64 (a1 - 1)), .int .i64 (wrap64 (a2 + 1)), .int .i64 a3] rfl (by (try simp only [List.map_toArray, List.map_cons, List.map_nil]); first | done | rfl | (simp only [List.length_drop, List.length_take]; rfl)) ?_; (with_reducible refine (ih kj21 (by have := HJ7.out; have := HJ14.out; have := HJ16.out; have := HJ21.out; omega) g s0_0 t181 (wrap64 (a1 - 1)) (wrap64 (a2 + 1)) a3 t183 t184 t185 t186 t189 w0 _ ?side1 ?side2 A33.out HNL.out).mono ?_); (case side1 => repeat (first | (with_reducible first | exact HI0.out | apply IsS46.alloc | apply IsS46.drewN | apply IsS46.drew | apply IsS46.set_1 | refine IsS46.far ?_ NB0_166.out _ | refine IsS46.far ?_ NB0_173.out _) | exact HI0.out)); (case side2 => repeat (first | (with_reducible first | exact HB.out | apply yF | apply yG | apply yH | refine yI ?_ (IsS46.ge HI0.out) | refine yI ?_ GE166.out | refine yI ?_ GE173.out) | exact HB.out)); rintro e w47 ⟨v187, rfl, ho0, hi, hb, hk⟩; refine ⟨_, rfl, ?_⟩; have n0_ := yJ (KeepBut.blk hk (g' := gb166) (o := .cells #[.int .i64 0, .string (⟨#[]⟩ : ByteArray), .int .i64 0, .slice none 0 0] 25 (0, 0)) (pk BK166.out) NB166_0.out (by simp)); have n1_ := yJ (KeepBut.blk hk (g' := gb173) (o := .cells #[.int .i64 x10_21, .string (rdOf ByteArray.empty y174 t180), .int .i64 0, .slice none 0 0] 25 (0, 0)) (pk BK173.out) NB173_0.out (by simp)); have n2_ := yJ (Kd.R_mono (Kd.R_keep (IsS46.apart (show IsS46 w0 _ g s0_0 t181 from by repeat (first | (with_reducible first | exact HI0.out | apply IsS46.alloc | apply IsS46.drewN | apply IsS46.drew | apply IsS46.set_1 | refine IsS46.far ?_ NB0_166.out _ | refine IsS46.far ?_ NB0_173.out _) | exact HI0.out)) (by (with_reducible repeat (first | apply Kd.R_alloc | apply Kd.R_drewN | apply Kd.R_drew)); exact HO176.out) (by decide)) hk (fun _ h => h.2)) (fun _ h => h.1)); have n3_ := yJ (Kd.R_mono (Kd.R_keep (IsS46.apart (show IsS46 w0 _ g s0_0 t181 from by repeat (first | (with_reducible first | exact HI0.out | apply IsS46.alloc | apply IsS46.drewN | apply IsS46.drew | apply IsS46.set_1 | refine IsS46.far ?_ NB0_166.out _ | refine IsS46.far ?_ NB0_173.out _) | exact HI0.out)) (by (with_reducible repeat (first | apply Kd.R_alloc | apply Kd.R_drewN | apply Kd.R_drew)); exact HO179.out) (by decide)) hk (fun _ h => h.2)) (fun _ h => h.1)); have n4_ := yJ (Kd.N_lower (Kd.N_mono (ok' := fun k_ => (w.heap.size ≤ k_) ∧ some k_ ≠ (.slice none 0 0 : Value).ownBlock ∧ some k_ ≠ (.slice none 0 0 : Value).ownBlock ∧ k_ ≠ gb166 ∧ k_ ≠ gb173 ∧ k_ ≠ g) ho0 (fun k_ hk_ => ⟨(Nat.le_trans (keep_size (w := w) (g := g) (row := none) (by repeat (first | (with_reducible first | exact HK.out | apply KeepBut.set_ | apply keep_drewN | apply keep_drew | apply keep_alloc | refine keep_far ?_ GW166.out _ | refine keep_far ?_ GW173.out _) | exact HK.out))) hk_), (Kd.fresh' (Kd.R_lt (by (with_reducible repeat (first | apply Kd.R_alloc | apply Kd.R_drewN | apply Kd.R_drew)); exact HO176.out)) k_ hk_), (Kd.fresh' (Kd.R_lt (by (with_reducible repeat (first | apply Kd.R_alloc | apply Kd.R_drewN | apply Kd.R_drew)); exact HO179.out)) k_ hk_), (Kd.freshB (g := gb166) (o := .cells #[.int .i64 0, .string (⟨#[]⟩ : ByteArray), .int .i64 0, .slice none 0 0] 25 (0, 0)) (pk BK166.out) k_ hk_), (Kd.freshB (g := gb173) (o := .cells #[.int .i64 x10_21, .string (rdOf ByteArray.empty y174 t180), .int .i64 0, .slice none 0 0] 25 (0, 0)) (pk BK173.out) k_ hk_), (IsS46.fresh (by repeat (first | (with_reducible first | exact HI0.out | apply IsS46.alloc | apply IsS46.drewN | apply IsS46.drew | apply IsS46.set_1 | refine IsS46.far ?_ NB0_166.out _ | refine IsS46.far ?_ NB0_173.out _) | exact HI0.out)) k_ hk_)⟩)) (keep_size (w := w) (g := g) (row := none) (by repeat (first | (with_reducible first | exact HK.out | apply KeepBut.set_ | apply keep_drewN | apply keep_drew | apply keep_alloc | refine keep_far ?_ GW166.out _ | refine keep_far ?_ GW173.out _) | exact HK.out)))); have n5_ := yJ (KeepBut.trans (by repeat (first | (with_reducible first | exact HK.out | apply KeepBut.set_ | apply keep_drewN | apply keep_drew | apply keep_alloc | refine keep_far ?_ GW166.out _ | refine keep_far ?_ GW173.out _) | exact HK.out)) hk (.inl rfl)); have n6_ := yJ (hb); have n7_ := yJ (hi); clear BK166; clear BK173; clear HO176; clear HO179; clear HK; clear HB; clear HI0; have BK166 := n0_; have BK173 := n1_; have HO176 := n2_; have HO179 := n3_; have HO188 := n4_; have HK := n5_; have HB := n6_; have HI0 := n7_; clear n0_ n1_ n2_ n3_ n4_ n5_ n6_ n7_; (try clear hb); (try clear hb2); (try clear hk); (try clear hi); (try clear ho0); obtain ⟨Ao48, co48, eo48⟩ := Kd.N_slice HO188.out; subst eo48) | ((with_reducible refine gate_dst (N := 61) rfl ?_); refine Kd.N_lit k25 _ 25 ?hg (N' := 61) ?hd (xs := ([(⟨t183, t184, t185, t186⟩ : S25)] : List (S25))) (inner := [.int .i64 t183, .string t184, .int .i64 t185, .slice Ao48 t186.length co48]) (ok := (fun k_ => (w.heap.size ≤ k_) ∧ some k_ ≠ (.slice none 0 0 : Value).ownBlock ∧ some k_ ≠ (.slice none 0 0 : Value).ownBlock ∧ k_ ≠ gb166 ∧ k_ ≠ gb173 ∧ k_ ≠ g)) (okp := (fun k_ => (w.heap.size ≤ k_) ∧ some k_ ≠ (.slice none 0 0 : Value).ownBlock ∧ some k_ ≠ (.slice none 0 0 : Value).ownBlock ∧ k_ ≠ gb166 ∧ k_ ≠ gb173 ∧ k_ ≠ g)) ?hr ?hp (fun _ hk => hk) ((show ∀ k_, w47.heap.size ≤ k_ → (fun k_ => (w.heap.size ≤ k_) ∧ some k_ ≠ (.slice none 0 0 : Value).ownBlock ∧ some k_ ≠ (.slice none 0 0 : Value).ownBlock ∧ k_ ≠ gb166 ∧ k_ ≠ gb173 ∧ k_ ≠ g) k_ from fun k_ hk => ⟨(Nat.le_trans (keep_size (w := w) (g := g) (row := none) (by repeat (first | (with_reducible first | exact HK.out | apply KeepBut.set_ | apply keep_drewN | apply keep_drew | apply keep_alloc | refine keep_far ?_ GW166.out _ | refine keep_far ?_ GW173.out _) | exact HK.out))) hk), Kd.fresh' (Kd.R_lt (by (with_reducible repeat (first | apply Kd.R_alloc | apply Kd.R_drewN | apply Kd.R_drew)); exact HO176.out)) k_ hk, Kd.fresh' (Kd.R_lt (by (with_reducible repeat (first | apply Kd.R_alloc | apply Kd.R_drewN | apply Kd.R_drew)); exact HO179.out)) k_ hk, Kd.freshB (g := gb166) (o := .cells #[.int .i64 0, .string (⟨#[]⟩ : ByteArray), .int .i64 0, .slice none 0 0] 25 (0, 0)) (pk BK166.out) k_ hk, Kd.freshB (g := gb173) (o := .cells #[.int .i64 x10_21, .string (rdOf ByteArray.empty y174 t180), .int .i64 0, .slice none 0 0] 25 (0, 0)) (pk BK173.out) k_ hk, IsS46.fresh (by repeat (first | (with_reducible first | exact HI0.out | apply IsS46.alloc | apply IsS46.drewN | apply IsS46.drew | apply IsS46.set_1 | refine IsS46.far ?_ NB0_166.out _ | refine IsS46.far ?_ NB0_173.out _) | exact HI0.out)) k_ hk⟩) _ (Nat.le_refl _)) (Below.refl _ _) (Nat.le_refl _) (by simp) ?_; (case hd => rfl); (case hg => rfl); (case hr => first | (go_simp; done) | (go_simp; rfl)); (case hp => exact (Reps.c4 (show Kd.FK k25 _ _ (⟨t183, t184, t185, t186⟩ : S25) [.int .i64 t183, .string t184, .int .i64 t185, .slice Ao48 t186.length co48] from (k25_mkF _ _ (⟨t183, t184, t185, t186⟩ : S25) (Kd.N_reads' (Kd.N_mono (ok' := (fun k_ => (w.heap.size ≤ k_) ∧ some k_ ≠ (.slice none 0 0 : Value).ownBlock ∧ some k_ ≠ (.slice none 0 0 : Value).ownBlock ∧ k_ ≠ gb166 ∧ k_ ≠ gb173 ∧ k_ ≠ g)) (HO188.out) (fun k_ hk => ⟨hk.1, ⟨hk.2.1, ⟨hk.2.2.1, ⟨hk.2.2.2.1, ⟨hk.2.2.2.2.1, hk.2.2.2.2.2⟩⟩⟩⟩⟩))).2.1 (Kd.N_F (Kd.N_mono (ok' := (fun k_ => (w.heap.size ≤ k_) ∧ some k_ ≠ (.slice none 0 0 : Value).ownBlock ∧ some k_ ≠ (.slice none 0 0 : Value).ownBlock ∧ k_ ≠ gb166 ∧ k_ ≠ gb173 ∧ k_ ≠ g)) (HO188.out) (fun k_ hk => ⟨hk.1, ⟨hk.2.1, ⟨hk.2.2.1, ⟨hk.2.2.2.1, ⟨hk.2.2.2.2.1, hk.2.2.2.2.2⟩⟩⟩⟩⟩))))) (Reps.none _ _))); intro v191 w49 ho50 hb hg_ hnew_; clear hg_ hnew_; (first | rw [← Ny190.out] at ho50 | (simp only [Int.reduceToNat] at ho50; rw [← Ny190.out] at ho50)); have n0_ := yJ (Kd.R_below (by (with_reducible repeat (first | apply Kd.R_alloc | apply Kd.R_drewN | apply Kd.R_drew)); exact HO176.out) hb); have n1_ := yJ (Kd.R_below (by (with_reducible repeat (first | apply Kd.R_alloc | apply Kd.R_drewN | apply Kd.R_drew)); exact HO179.out) hb); have n2_ := yJ (Kd.N_lower ho50 (keep_size (w := w) (g := g) (row := none) (by repeat (first | (with_reducible first | exact HK.out | apply KeepBut.set_ | apply keep_drewN | apply keep_drew | apply keep_alloc | refine keep_far ?_ GW166.out _ | refine keep_far ?_ GW173.out _) | exact HK.out)))); have n3_ := yJ (blk_below (g := gb166) (o := .cells #[.int .i64 0, .string (⟨#[]⟩ : ByteArray), .int .i64 0, .slice none 0 0] 25 (0, 0)) (pk BK166.out) hb); have n4_ := yJ (IsS46.below (by repeat (first | (with_reducible first | exact HI0.out | apply IsS46.alloc | apply IsS46.drewN | apply IsS46.drew | apply IsS46.set_1 | refine IsS46.far ?_ NB0_166.out _ | refine IsS46.far ?_ NB0_173.out _) | exact HI0.out)) hb); have n5_ := yJ (blk_below (g := gb173) (o := .cells #[.int .i64 x10_21, .string (rdOf ByteArray.empty y174 t180), .int .i64 0, .slice none 0 0] 25 (0, 0)) (pk BK173.out) hb); have n6_ := yJ (KeepBut.trans (by repeat (first | (with_reducible first | exact HK.out | apply KeepBut.set_ | apply keep_drewN | apply keep_drew | apply keep_alloc | refine keep_far ?_ GW166.out _ | refine keep_far ?_ GW173.out _) | exact HK.out)) (KeepBut.of_below hb g none) (.inl rfl)); have n7_ := yJ (below_step (by repeat (first | (with_reducible first | exact HB.out | apply yF | apply yG | apply yH | refine yI ?_ (IsS46.ge HI0.out) | refine yI ?_ GE166.out | refine yI ?_ GE173.out) | exact HB.out)) hb); clear HO176; clear HO179; clear BK166; clear HI0; clear BK173; clear HK; clear HB; clear HO188; have HO176 := n0_; have HO179 := n1_; have HO192 := n2_; have BK166 := n3_; have HI0 := n4_; have BK173 := n5_; have HK := n6_; have HB := n7_; clear n0_ n1_ n2_ n3_ n4_ n5_ n6_ n7_; clear hb ho50; obtain ⟨Ao51, co51, eo51⟩ := Kd.N_slice HO192.out; subst eo51; have hnb52 := NB173_166.out; have hnc52 := NB166_173.out; have hnb53 := NB173_0.out; have hnc53 := NB0_173.out; have hcz54_0 : w49.cell? ⟨gb173, 0, none⟩ = some (.int .i64 x10_21) := (yE BK173.out 0).trans rfl; have hcz54_1 : w49.cell? ⟨gb173, 1, none⟩ = some (.string (rdOf ByteArray.empty y174 t180)) := (yE BK173.out 1).trans rfl; have hcz54_2 : w49.cell? ⟨gb173, 2, none⟩ = some (.int .i64 0) := (yE BK173.out 2).trans rfl; have hcz54_3 : w49.cell? ⟨gb173, 3, none⟩ = some (.slice none 0 0) := (yE BK173.out 3).trans rfl; have hfz54_0 := yD BK173.out 0; have hfz54_1 := yD BK173.out 1; have hfz54_2 := yD BK173.out 2; have hfz54_3 := yD BK173.out 3; have hnb55 := NB166_0.out; have hnc55 := NB0_166.out; have hcz56_0 : w49.cell? ⟨gb166, 0, none⟩ = some (.int .i64 0) := (yE BK166.out 0).trans rfl; have hcz56_1 : w49.cell? ⟨gb166, 1, none⟩ = some (.string (⟨#[]⟩ : ByteArray)) := (yE BK166.out 1).trans rfl; have hcz56_2 : w49.cell? ⟨gb166, 2, none⟩ = some (.int .i64 0) := (yE BK166.out 2).trans rfl; have hcz56_3 : w49.cell? ⟨gb166, 3, none⟩ = some (.slice none 0 0) := (yE BK166.out 3).trans rfl; have hfz56_0 := yD BK166.out 0; have hfz56_1 := yD BK166.out 1; have hfz56_2 := yD BK166.out 2; have hfz56_3 := yD BK166.out 3))
               refine bodyPost_ret (results_cell_row rfl _ _ gb166 25 #[.int .i64 x10_21, .string (rdOf ByteArray.empty y174 t180), .int .i64 0, .slice Ao51 y190.length co51] (0, 0) _ rfl (by (with_reducible repeat (first | refine yA ?_ _ | refine yB ?_ | refine yC ?_ _)); refine blk_put (cs := #[.int .i64 x10_21, .string (rdOf ByteArray.empty y174 t180), .int .i64 0, .slice none 0 0]) ?_ 3 _ rfl; (with_reducible repeat (first | refine yA ?_ _ | refine yB ?_ | refine yC ?_ _)); refine blk_put (cs := #[.int .i64 x10_21, .string (rdOf ByteArray.empty y174 t180), .int .i64 0, .slice none 0 0]) ?_ 2 _ rfl; (with_reducible repeat (first | refine yA ?_ _ | refine yB ?_ | refine yC ?_ _)); refine blk_put (cs := #[.int .i64 x10_21, .string (⟨#[]⟩ : ByteArray), .int .i64 0, .slice none 0 0]) ?_ 1 _ rfl; (with_reducible repeat (first | refine yA ?_ _ | refine yB ?_ | refine yC ?_ _)); refine blk_put (cs := #[.int .i64 0, .string (⟨#[]⟩ : ByteArray), .int .i64 0, .slice none 0 0]) ?_ 0 _ rfl; (with_reducible repeat (first | refine yA ?_ _ | refine yB ?_ | refine yC ?_ _)); refine blk_far ?_ NB166_173.out _; (with_reducible repeat (first | refine yA ?_ _ | refine yB ?_ | refine yC ?_ _)); exact BK166.out) Tryd.underlying25 rfl (by kernel_rfl)) rfl ?_
               exact ⟨_, by first | rfl | (simp [errW_none, errW_some] <;> rfl) | (simp [*, errW_none, errW_some] <;> rfl), by (with_reducible repeat (first | apply Kd.N_alloc | apply Kd.N_drewN | apply Kd.N_drew)); exact Kd.N_mono (Kd.N_far (p := ⟨gb166, 3, none⟩) (Kd.N_far (p := ⟨gb166, 2, none⟩) (Kd.N_far (p := ⟨gb166, 1, none⟩) (Kd.N_far (p := ⟨gb166, 0, none⟩) (Kd.N_far (p := ⟨gb173, 3, none⟩) (Kd.N_mono (Kd.N_mono HO192.out (fun k_ hk => (⟨hk, hk.2.2.2.2.1⟩ : _ ∧ k_ ≠ gb173))) (fun k_ hk => (⟨hk, hk.1.2.2.2.1⟩ : _ ∧ k_ ≠ gb166))) (fun _ hk => hk.1.2) (.slice Ao51 y190.length co51)) (fun _ hk => hk.2) (.int .i64 x10_21)) (fun _ hk => hk.2) (.string (rdOf ByteArray.empty y174 t180))) (fun _ hk => hk.2) (.int .i64 0)) (fun _ hk => hk.2) (.slice Ao51 y190.length co51)) (fun _ hk => hk.1.1.1), by repeat (first | (with_reducible first | exact HI0.out | apply IsS46.alloc | apply IsS46.drewN | apply IsS46.drew | apply IsS46.set_1 | refine IsS46.far ?_ NB0_166.out _ | refine IsS46.far ?_ NB0_173.out _) | exact HI0.out), by repeat (first | (with_reducible first | exact HB.out | apply yF | apply yG | apply yH | refine yI ?_ (IsS46.ge HI0.out) | refine yI ?_ GE166.out | refine yI ?_ GE173.out) | exact HB.out), by repeat (first | (with_reducible first | exact HK.out | apply KeepBut.set_ | apply keep_drewN | apply keep_drew | apply keep_alloc | refine keep_far ?_ GW166.out _ | refine keep_far ?_ GW173.out _) | exact HK.out)⟩
              ·rw [if_neg c32] at H
               exact absurd H (by simp)
             ·rw [if_neg c31] at H
              exact absurd H (by simp)
            ·rw [if_neg c29] at H
             have c29b0 : (x10_21 == 3) = false := beq_eq_false_iff_ne.mpr c29
             have c29b1 : (x10_21 != 3) = true := bne_iff_ne.mpr c29
             (first | rw [c29b0] | (simp only [i64_w, i32_w]; rw [c29b0]) | skip)
             by_cases c57 : x10_21 = 4
             ·rw [if_pos c57] at H
              have c57b0 : (x10_21 == 4) = true := beq_iff_eq.mpr c57
              have c57b1 : (x10_21 != 4) = false := bne_eq_false_iff_eq.mpr c57
              clear c57
              obtain ⟨y193, hy193⟩ : ∃ y_ : List ByteArray, y_ = (([(⟨#[122]⟩ : ByteArray), (⟨#[115]⟩ : ByteArray), (⟨#[99]⟩ : ByteArray), (⟨#[97, 112, 112]⟩ : ByteArray)] : List ByteArray)) := ⟨_, rfl⟩
              replace H : ((fm_Tape_Next.f s0_0 t171 4).bind fun bt196 => (if 0 ≤ bt196.1 then (if bt196.1 < (y193.length : Int) then (fm_Term.j4 kj21 a1 a2 a3 s0_0 bt196.2 x10_21 (rdOf ByteArray.empty y193 bt196.1) 0) else (none)) else (none))) = some (r1, r2, r3, r4, r5) := by first | (rw [hy193]; with_reducible exact H) | (have H2_ := (Option.bind_some _ _).symm.trans H; rw [hy193]; with_reducible exact H2_) | (have H2_ := (Option.bind_some _ _).symm.trans H; with_reducible exact H2_) | with_reducible exact H | (rw [hy193]; exact H) | exact H
              have Ny193 := yJ hy193;clear hy193;replace H := yK H
              obtain ⟨⟨t196, t197⟩, A580, H⟩ := H
              replace H : (if 0 ≤ t196 then (if t196 < (y193.length : Int) then (fm_Term.j4 kj21 a1 a2 a3 s0_0 t197 x10_21 (rdOf ByteArray.empty y193 t196) 0) else (none)) else (none)) = some (r1, r2, r3, r4, r5) := H
              have A58 := yJ A580;clear A580
              by_cases c59 : 0 ≤ t196
              ·rw [if_pos c59] at H
               have c59b0 : decide (0 ≤ t196) = true := decide_eq_true c59
               clear c59
               by_cases c60 : t196 < (y193.length : Int)
               ·rw [if_pos c60] at H
                have c60b0 : decide (t196 < (y193.length : Int)) = true := decide_eq_true c60
                clear c60
                have H' := yJ H
                clear H
                go_wp2_with (first | ((with_reducible refine gate_dst (N := 66) rfl ?_); refine Kd.R_lit Kd.string _ 9 ?hg (N := 66) ?hd (xs := ([(⟨#[122]⟩ : ByteArray), (⟨#[115]⟩ : ByteArray), (⟨#[99]⟩ : ByteArray), (⟨#[97, 112, 112]⟩ : ByteArray)] : List ByteArray)) (inner := [.string (⟨#[122]⟩ : ByteArray), .string (⟨#[115]⟩ : ByteArray), .string (⟨#[99]⟩ : ByteArray), .string (⟨#[97, 112, 112]⟩ : ByteArray)]) (ok := fun _ => True) (okp := fun _ => True) ?hr ?hp (fun _ hk => hk) trivial (Below.refl _ _) (Nat.le_refl _) (by simp) ?_; (case hd => rfl); (case hg => rfl); (case hr => first | (go_simp; done) | (go_simp; rfl)); (case hp => exact (Reps.one (show Kd.M Kd.string _ _ _ (⟨#[122]⟩ : ByteArray) [.string (⟨#[122]⟩ : ByteArray)] from rfl) (Reps.one (show Kd.M Kd.string _ _ _ (⟨#[115]⟩ : ByteArray) [.string (⟨#[115]⟩ : ByteArray)] from rfl) (Reps.one (show Kd.M Kd.string _ _ _ (⟨#[99]⟩ : ByteArray) [.string (⟨#[99]⟩ : ByteArray)] from rfl) (Reps.one (show Kd.M Kd.string _ _ _ (⟨#[97, 112, 112]⟩ : ByteArray) [.string (⟨#[97, 112, 112]⟩ : ByteArray)] from rfl) (Reps.none _ _)))))); intro v194 w61 ho62 hb hg_ hnew_; clear hg_ hnew_; (first | rw [← Ny193.out] at ho62 | (simp only [Int.reduceToNat] at ho62; rw [← Ny193.out] at ho62)); have n0_ := yJ (Kd.R_lower (Kd.R_newM (M := fun k_ => (w.heap.size ≤ k_)) ho62 (keep_size (w := w) (g := g) (row := none) (by repeat (first | (with_reducible first | exact HK.out | apply KeepBut.set_ | apply keep_drewN | apply keep_drew | apply keep_alloc | refine keep_far ?_ GW166.out _ | refine keep_far ?_ GW173.out _) | exact HK.out))) (fun k_ h_ => h_)) (keep_size (w := w) (g := g) (row := none) (by repeat (first | (with_reducible first | exact HK.out | apply KeepBut.set_ | apply keep_drewN | apply keep_drew | apply keep_alloc | refine keep_far ?_ GW166.out _ | refine keep_far ?_ GW173.out _) | exact HK.out)))); have n1_ := yJ (blk_below (g := gb166) (o := .cells #[.int .i64 0, .string (⟨#[]⟩ : ByteArray), .int .i64 0, .slice none 0 0] 25 (0, 0)) (pk BK166.out) hb); have n2_ := yJ (IsS46.below (show IsS46 w0 ((((w25.setCell ⟨gb173, 0, none⟩ (.int .i64 x10_21)).setCell ⟨gb173, 1, none⟩ (.string (⟨#[]⟩ : ByteArray))).setCell ⟨gb173, 2, none⟩ (.int .i64 0)).setCell ⟨gb173, 3, none⟩ (.slice none 0 0)) g s0_0 t171 from by repeat (first | (with_reducible first | exact HI0.out | apply IsS46.alloc | apply IsS46.drewN | apply IsS46.drew | apply IsS46.set_1 | refine IsS46.far ?_ NB0_166.out _ | refine IsS46.far ?_ NB0_173.out _) | exact HI0.out)) hb); have n3_ := yJ (blk_below (g := gb173) (o := .cells #[.int .i64 x10_21, .string (⟨#[]⟩ : ByteArray), .int .i64 0, .slice none 0 0] 25 (0, 0)) (by (with_reducible repeat (first | refine yA ?_ _ | refine yB ?_ | refine yC ?_ _)); refine blk_put (cs := #[.int .i64 x10_21, .string (⟨#[]⟩ : ByteArray), .int .i64 0, .slice none 0 0]) ?_ 3 _ rfl; (with_reducible repeat (first | refine yA ?_ _ | refine yB ?_ | refine yC ?_ _)); refine blk_put (cs := #[.int .i64 x10_21, .string (⟨#[]⟩ : ByteArray), .int .i64 0, .slice none 0 0]) ?_ 2 _ rfl; (with_reducible repeat (first | refine yA ?_ _ | refine yB ?_ | refine yC ?_ _)); refine blk_put (cs := #[.int .i64 x10_21, .string (⟨#[]⟩ : ByteArray), .int .i64 0, .slice none 0 0]) ?_ 1 _ rfl; (with_reducible repeat (first | refine yA ?_ _ | refine yB ?_ | refine yC ?_ _)); refine blk_put (cs := #[.int .i64 0, .string (⟨#[]⟩ : ByteArray), .int .i64 0, .slice none 0 0]) ?_ 0 _ rfl; (with_reducible repeat (first | refine yA ?_ _ | refine yB ?_ | refine yC ?_ _)); exact BK173.out) hb); have n4_ := yJ (KeepBut.trans (by repeat (first | (with_reducible first | exact HK.out | apply KeepBut.set_ | apply keep_drewN | apply keep_drew | apply keep_alloc | refine keep_far ?_ GW166.out _ | refine keep_far ?_ GW173.out _) | exact HK.out)) (KeepBut.of_below hb g none) (.inl rfl)); have n5_ := yJ (below_step (by repeat (first | (with_reducible first | exact HB.out | apply yF | apply yG | apply yH | refine yI ?_ (IsS46.ge HI0.out) | refine yI ?_ GE166.out | refine yI ?_ GE173.out) | exact HB.out)) hb); clear BK166; clear HI0; clear BK173; clear HK; clear HB; have HO195 := n0_; have BK166 := n1_; have HI0 := n2_; have BK173 := n3_; have HK := n4_; have HB := n5_; clear n0_ n1_ n2_ n3_ n4_ n5_; clear hb ho62) | ((with_reducible refine gate_callee (f := 90) rfl ?_); refine goesL_ (some 68) rfl rfl Tryd.func90 (by kernel_rfl) rfl #[.pointer (some ⟨g, 0, none⟩), .int .i64 4] rfl (by (try simp only [List.map_toArray, List.map_cons, List.map_nil]); first | done | rfl | (simp only [List.length_drop, List.length_take]; rfl)) ?_; (with_reducible refine (fm_Tape_Next.calls g s0_0 t171 4 t196 t197 w0 _ ?side1 ?side2 A58.out).mono ?_); (case side1 => repeat (first | (with_reducible first | exact HI0.out | apply IsS46.alloc | apply IsS46.drewN | apply IsS46.drew | apply IsS46.set_1 | refine IsS46.far ?_ NB0_166.out _ | refine IsS46.far ?_ NB0_173.out _) | exact HI0.out)); (case side2 => repeat (first | (with_reducible first | exact HB.out | apply yF | apply yG | apply yH | refine yI ?_ (IsS46.ge HI0.out) | refine yI ?_ GE166.out | refine yI ?_ GE173.out) | exact HB.out)); rintro e w63 ⟨rfl, hi, hb, hk⟩; refine ⟨_, rfl, ?_⟩; have n0_ := yJ (KeepBut.blk hk (g' := gb166) (o := .cells #[.int .i64 0, .string (⟨#[]⟩ : ByteArray), .int .i64 0, .slice none 0 0] 25 (0, 0)) (pk BK166.out) NB166_0.out (by simp)); have n1_ := yJ (KeepBut.blk hk (g' := gb173) (o := .cells #[.int .i64 x10_21, .string (⟨#[]⟩ : ByteArray), .int .i64 0, .slice none 0 0] 25 (0, 0)) (pk BK173.out) NB173_0.out (by simp)); have n2_ := yJ (Kd.R_mono (Kd.R_keep (IsS46.apart (show IsS46 w0 _ g s0_0 t171 from by repeat (first | (with_reducible first | exact HI0.out | apply IsS46.alloc | apply IsS46.drewN | apply IsS46.drew | apply IsS46.set_1 | refine IsS46.far ?_ NB0_166.out _ | refine IsS46.far ?_ NB0_173.out _) | exact HI0.out)) (by (with_reducible repeat (first | apply Kd.R_alloc | apply Kd.R_drewN | apply Kd.R_drew)); exact HO195.out) (by decide)) hk (fun _ h => h.2)) (fun _ h => h.1)); have n3_ := yJ (KeepBut.trans (by repeat (first | (with_reducible first | exact HK.out | apply KeepBut.set_ | apply keep_drewN | apply keep_drew | apply keep_alloc | refine keep_far ?_ GW166.out _ | refine keep_far ?_ GW173.out _) | exact HK.out)) hk (.inl rfl)); have n4_ := yJ (hb); have n5_ := yJ (hi); clear BK166; clear BK173; clear HO195; clear HK; clear HB; clear HI0; have BK166 := n0_; have BK173 := n1_; have HO195 := n2_; have HK := n3_; have HB := n4_; have HI0 := n5_; clear n0_ n1_ n2_ n3_ n4_ n5_; (try clear hb); (try clear hb2); (try clear hk); (try clear hi); obtain ⟨Ao64, co64, eo64⟩ := Kd.R_slice HO195.out; subst eo64; have p198 : 0 ≤ (t196 : Int) := of_decide_eq_true (by first | (with_reducible assumption) | assumption); have q198 : t196 < (y193.length : Int) := of_decide_eq_true (by first | (with_reducible assumption) | assumption); obtain ⟨ad198, e198, hx198_0⟩ := Kd.at_string (Kd.R_reads' HO195.out).2.2 t196 p198 q198; cases e198; replace p198 := eq_true p198; replace q198 := eq_true q198; have hnb65 := NB173_166.out; have hnc65 := NB166_173.out; have hnb66 := NB173_0.out; have hnc66 := NB0_173.out; have hcz67_0 : w63.cell? ⟨gb173, 0, none⟩ = some (.int .i64 x10_21) := (yE BK173.out 0).trans rfl; have hcz67_1 : w63.cell? ⟨gb173, 1, none⟩ = some (.string (⟨#[]⟩ : ByteArray)) := (yE BK173.out 1).trans rfl; have hcz67_2 : w63.cell? ⟨gb173, 2, none⟩ = some (.int .i64 0) := (yE BK173.out 2).trans rfl; have hcz67_3 : w63.cell? ⟨gb173, 3, none⟩ = some (.slice none 0 0) := (yE BK173.out 3).trans rfl; have hfz67_0 := yD BK173.out 0; have hfz67_1 := yD BK173.out 1; have hfz67_2 := yD BK173.out 2; have hfz67_3 := yD BK173.out 3))
                go_meet
                case rel => exact ⟨_, (t197), (0), ((⟨#[]⟩ : ByteArray)), (0), (rdOf ByteArray.empty y193 t196), (0), H', ⟨by have := HJ7.out; have := HJ14.out; have := HJ16.out; have := HJ21.out; first | omega | exact Nat.le_refl _⟩, ⟨pk BK166.out⟩, ⟨by (with_reducible repeat (first | refine yA ?_ _ | refine yB ?_ | refine yC ?_ _)); refine blk_put (cs := #[.int .i64 x10_21, .string (⟨#[]⟩ : ByteArray), .int .i64 0, .slice none 0 0]) ?_ 1 _ rfl; (with_reducible repeat (first | refine yA ?_ _ | refine yB ?_ | refine yC ?_ _)); exact BK173.out⟩, ⟨by repeat (first | (with_reducible first | exact HI0.out | apply IsS46.alloc | apply IsS46.drewN | apply IsS46.drew | apply IsS46.set_1 | refine IsS46.far ?_ NB0_166.out _ | refine IsS46.far ?_ NB0_173.out _) | exact HI0.out)⟩, ⟨by repeat (first | (with_reducible first | exact HK.out | apply KeepBut.set_ | apply keep_drewN | apply keep_drew | apply keep_alloc | refine keep_far ?_ GW166.out _ | refine keep_far ?_ GW173.out _) | exact HK.out)⟩, ⟨by repeat (first | (with_reducible first | exact HB.out | apply yF | apply yG | apply yH | refine yI ?_ (IsS46.ge HI0.out) | refine yI ?_ GE166.out | refine yI ?_ GE173.out) | exact HB.out)⟩⟩
               ·rw [if_neg c60] at H
                exact absurd H (by simp)
              ·rw [if_neg c59] at H
               exact absurd H (by simp)
             ·rw [if_neg c57] at H
              have c57b0 : (x10_21 == 4) = false := beq_eq_false_iff_ne.mpr c57
              have c57b1 : (x10_21 != 4) = true := bne_iff_ne.mpr c57
              by_cases c68 : x10_21 = 5
              ·rw [if_pos c68] at H
               have c68b0 : (x10_21 == 5) = true := beq_iff_eq.mpr c68
               have c68b1 : (x10_21 != 5) = false := bne_eq_false_iff_eq.mpr c68
               clear c68;replace H := yK H
               obtain ⟨⟨t199, t200⟩, A690, H⟩ := H
               replace H : (fm_Term.j4 kj21 a1 a2 a3 s0_0 t200 x10_21 (⟨#[]⟩ : ByteArray) t199) = some (r1, r2, r3, r4, r5) := H
               have A69 := yJ A690;clear A690
               have H' := yJ H
               clear H
               go_wp2_with (first | ((with_reducible refine gate_callee (f := 90) rfl ?_); refine goesL_ (some 76) rfl rfl Tryd.func90 (by kernel_rfl) rfl #[.pointer (some ⟨g, 0, none⟩), .int .i64 a2] rfl (by (try simp only [List.map_toArray, List.map_cons, List.map_nil]); first | done | rfl | (simp only [List.length_drop, List.length_take]; rfl)) ?_; (with_reducible refine (fm_Tape_Next.calls g s0_0 t171 a2 t199 t200 w0 _ ?side1 ?side2 A69.out).mono ?_); (case side1 => repeat (first | (with_reducible first | exact HI0.out | apply IsS46.alloc | apply IsS46.drewN | apply IsS46.drew | apply IsS46.set_1 | refine IsS46.far ?_ NB0_166.out _ | refine IsS46.far ?_ NB0_173.out _) | exact HI0.out)); (case side2 => repeat (first | (with_reducible first | exact HB.out | apply yF | apply yG | apply yH | refine yI ?_ (IsS46.ge HI0.out) | refine yI ?_ GE166.out | refine yI ?_ GE173.out) | exact HB.out)); rintro e w70 ⟨rfl, hi, hb, hk⟩; refine ⟨_, rfl, ?_⟩; have n0_ := yJ (KeepBut.blk hk (g' := gb166) (o := .cells #[.int .i64 0, .string (⟨#[]⟩ : ByteArray), .int .i64 0, .slice none 0 0] 25 (0, 0)) (pk BK166.out) NB166_0.out (by simp)); have n1_ := yJ (KeepBut.blk hk (g' := gb173) (o := .cells #[.int .i64 x10_21, .string (⟨#[]⟩ : ByteArray), .int .i64 0, .slice none 0 0] 25 (0, 0)) (by (with_reducible repeat (first | refine yA ?_ _ | refine yB ?_ | refine yC ?_ _)); refine blk_put (cs := #[.int .i64 x10_21, .string (⟨#[]⟩ : ByteArray), .int .i64 0, .slice none 0 0]) ?_ 3 _ rfl; (with_reducible repeat (first | refine yA ?_ _ | refine yB ?_ | refine yC ?_ _)); refine blk_put (cs := #[.int .i64 x10_21, .string (⟨#[]⟩ : ByteArray), .int .i64 0, .slice none 0 0]) ?_ 2 _ rfl; (with_reducible repeat (first | refine yA ?_ _ | refine yB ?_ | refine yC ?_ _)); refine blk_put (cs := #[.int .i64 x10_21, .string (⟨#[]⟩ : ByteArray), .int .i64 0, .slice none 0 0]) ?_ 1 _ rfl; (with_reducible repeat (first | refine yA ?_ _ | refine yB ?_ | refine yC ?_ _)); refine blk_put (cs := #[.int .i64 0, .string (⟨#[]⟩ : ByteArray), .int .i64 0, .slice none 0 0]) ?_ 0 _ rfl; (with_reducible repeat (first | refine yA ?_ _ | refine yB ?_ | refine yC ?_ _)); exact BK173.out) NB173_0.out (by simp)); have n2_ := yJ (KeepBut.trans (by repeat (first | (with_reducible first | exact HK.out | apply KeepBut.set_ | apply keep_drewN | apply keep_drew | apply keep_alloc | refine keep_far ?_ GW166.out _ | refine keep_far ?_ GW173.out _) | exact HK.out)) hk (.inl rfl)); have n3_ := yJ (hb); have n4_ := yJ (hi); clear BK166; clear BK173; clear HK; clear HB; clear HI0; have BK166 := n0_; have BK173 := n1_; have HK := n2_; have HB := n3_; have HI0 := n4_; clear n0_ n1_ n2_ n3_ n4_; (try clear hb); (try clear hb2); (try clear hk); (try clear hi); have hnb71 := NB173_166.out; have hnc71 := NB166_173.out; have hnb72 := NB173_0.out; have hnc72 := NB0_173.out; have hcz73_0 : w70.cell? ⟨gb173, 0, none⟩ = some (.int .i64 x10_21) := (yE BK173.out 0).trans rfl; have hcz73_1 : w70.cell? ⟨gb173, 1, none⟩ = some (.string (⟨#[]⟩ : ByteArray)) := (yE BK173.out 1).trans rfl; have hcz73_2 : w70.cell? ⟨gb173, 2, none⟩ = some (.int .i64 0) := (yE BK173.out 2).trans rfl; have hcz73_3 : w70.cell? ⟨gb173, 3, none⟩ = some (.slice none 0 0) := (yE BK173.out 3).trans rfl; have hfz73_0 := yD BK173.out 0; have hfz73_1 := yD BK173.out 1; have hfz73_2 := yD BK173.out 2; have hfz73_3 := yD BK173.out 3))
               go_meet
               case rel => exact ⟨_, (t200), (0), ((⟨#[]⟩ : ByteArray)), (0), ((⟨#[]⟩ : ByteArray)), (t199), H', ⟨by have := HJ7.out; have := HJ14.out; have := HJ16.out; have := HJ21.out; first | omega | exact Nat.le_refl _⟩, ⟨pk BK166.out⟩, ⟨by (with_reducible repeat (first | refine yA ?_ _ | refine yB ?_ | refine yC ?_ _)); refine blk_put (cs := #[.int .i64 x10_21, .string (⟨#[]⟩ : ByteArray), .int .i64 0, .slice none 0 0]) ?_ 2 _ rfl; (with_reducible repeat (first | refine yA ?_ _ | refine yB ?_ | refine yC ?_ _)); exact BK173.out⟩, ⟨by repeat (first | (with_reducible first | exact HI0.out | apply IsS46.alloc | apply IsS46.drewN | apply IsS46.drew | apply IsS46.set_1 | refine IsS46.far ?_ NB0_166.out _ | refine IsS46.far ?_ NB0_173.out _) | exact HI0.out)⟩, ⟨by repeat (first | (with_reducible first | exact HK.out | apply KeepBut.set_ | apply keep_drewN | apply keep_drew | apply keep_alloc | refine keep_far ?_ GW166.out _ | refine keep_far ?_ GW173.out _) | exact HK.out)⟩, ⟨by repeat (first | (with_reducible first | exact HB.out | apply yF | apply yG | apply yH | refine yI ?_ (IsS46.ge HI0.out) | refine yI ?_ GE166.out | refine yI ?_ GE173.out) | exact HB.out)⟩⟩
              ·rw [if_neg c68] at H
               have c68b0 : (x10_21 == 5) = false := beq_eq_false_iff_ne.mpr c68
               have c68b1 : (x10_21 != 5) = true := bne_iff_ne.mpr c68
               by_cases c74 : x10_21 = 6
               ·rw [if_pos c74] at H
                have c74b0 : (x10_21 == 6) = true := beq_iff_eq.mpr c74
                have c74b1 : (x10_21 != 6) = false := bne_eq_false_iff_eq.mpr c74
                clear c74;replace H := yK H
                obtain ⟨⟨t201, t202⟩, A750, H⟩ := H
                replace H : (fm_Term.j4 kj21 a1 a2 a3 s0_0 t202 x10_21 (⟨#[]⟩ : ByteArray) t201) = some (r1, r2, r3, r4, r5) := H
                have A75 := yJ A750;clear A750
                have H' := yJ H
                clear H
                go_wp2_with (first | ((with_reducible refine gate_callee (f := 90) rfl ?_); refine goesL_ (some 82) rfl rfl Tryd.func90 (by kernel_rfl) rfl #[.pointer (some ⟨g, 0, none⟩), .int .i64 a3] rfl (by (try simp only [List.map_toArray, List.map_cons, List.map_nil]); first | done | rfl | (simp only [List.length_drop, List.length_take]; rfl)) ?_; (with_reducible refine (fm_Tape_Next.calls g s0_0 t171 a3 t201 t202 w0 _ ?side1 ?side2 A75.out).mono ?_); (case side1 => repeat (first | (with_reducible first | exact HI0.out | apply IsS46.alloc | apply IsS46.drewN | apply IsS46.drew | apply IsS46.set_1 | refine IsS46.far ?_ NB0_166.out _ | refine IsS46.far ?_ NB0_173.out _) | exact HI0.out)); (case side2 => repeat (first | (with_reducible first | exact HB.out | apply yF | apply yG | apply yH | refine yI ?_ (IsS46.ge HI0.out) | refine yI ?_ GE166.out | refine yI ?_ GE173.out) | exact HB.out)); rintro e w76 ⟨rfl, hi, hb, hk⟩; refine ⟨_, rfl, ?_⟩; have n0_ := yJ (KeepBut.blk hk (g' := gb166) (o := .cells #[.int .i64 0, .string (⟨#[]⟩ : ByteArray), .int .i64 0, .slice none 0 0] 25 (0, 0)) (pk BK166.out) NB166_0.out (by simp)); have n1_ := yJ (KeepBut.blk hk (g' := gb173) (o := .cells #[.int .i64 x10_21, .string (⟨#[]⟩ : ByteArray), .int .i64 0, .slice none 0 0] 25 (0, 0)) (by (with_reducible repeat (first | refine yA ?_ _ | refine yB ?_ | refine yC ?_ _)); refine blk_put (cs := #[.int .i64 x10_21, .string (⟨#[]⟩ : ByteArray), .int .i64 0, .slice none 0 0]) ?_ 3 _ rfl; (with_reducible repeat (first | refine yA ?_ _ | refine yB ?_ | refine yC ?_ _)); refine blk_put (cs := #[.int .i64 x10_21, .string (⟨#[]⟩ : ByteArray), .int .i64 0, .slice none 0 0]) ?_ 2 _ rfl; (with_reducible repeat (first | refine yA ?_ _ | refine yB ?_ | refine yC ?_ _)); refine blk_put (cs := #[.int .i64 x10_21, .string (⟨#[]⟩ : ByteArray), .int .i64 0, .slice none 0 0]) ?_ 1 _ rfl; (with_reducible repeat (first | refine yA ?_ _ | refine yB ?_ | refine yC ?_ _)); refine blk_put (cs := #[.int .i64 0, .string (⟨#[]⟩ : ByteArray), .int .i64 0, .slice none 0 0]) ?_ 0 _ rfl; (with_reducible repeat (first | refine yA ?_ _ | refine yB ?_ | refine yC ?_ _)); exact BK173.out) NB173_0.out (by simp)); have n2_ := yJ (KeepBut.trans (by repeat (first | (with_reducible first | exact HK.out | apply KeepBut.set_ | apply keep_drewN | apply keep_drew | apply keep_alloc | refine keep_far ?_ GW166.out _ | refine keep_far ?_ GW173.out _) | exact HK.out)) hk (.inl rfl)); have n3_ := yJ (hb); have n4_ := yJ (hi); clear BK166; clear BK173; clear HK; clear HB; clear HI0; have BK166 := n0_; have BK173 := n1_; have HK := n2_; have HB := n3_; have HI0 := n4_; clear n0_ n1_ n2_ n3_ n4_; (try clear hb); (try clear hb2); (try clear hk); (try clear hi); have hnb77 := NB173_166.out; have hnc77 := NB166_173.out; have hnb78 := NB173_0.out; have hnc78 := NB0_173.out; have hcz79_0 : w76.cell? ⟨gb173, 0, none⟩ = some (.int .i64 x10_21) := (yE BK173.out 0).trans rfl; have hcz79_1 : w76.cell? ⟨gb173, 1, none⟩ = some (.string (⟨#[]⟩ : ByteArray)) := (yE BK173.out 1).trans rfl; have hcz79_2 : w76.cell? ⟨gb173, 2, none⟩ = some (.int .i64 0) := (yE BK173.out 2).trans rfl; have hcz79_3 : w76.cell? ⟨gb173, 3, none⟩ = some (.slice none 0 0) := (yE BK173.out 3).trans rfl; have hfz79_0 := yD BK173.out 0; have hfz79_1 := yD BK173.out 1; have hfz79_2 := yD BK173.out 2; have hfz79_3 := yD BK173.out 3))
                go_meet
                case rel => exact ⟨_, (t202), (0), ((⟨#[]⟩ : ByteArray)), (0), ((⟨#[]⟩ : ByteArray)), (t201), H', ⟨by have := HJ7.out; have := HJ14.out; have := HJ16.out; have := HJ21.out; first | omega | exact Nat.le_refl _⟩, ⟨pk BK166.out⟩, ⟨by (with_reducible repeat (first | refine yA ?_ _ | refine yB ?_ | refine yC ?_ _)); refine blk_put (cs := #[.int .i64 x10_21, .string (⟨#[]⟩ : ByteArray), .int .i64 0, .slice none 0 0]) ?_ 2 _ rfl; (with_reducible repeat (first | refine yA ?_ _ | refine yB ?_ | refine yC ?_ _)); exact BK173.out⟩, ⟨by repeat (first | (with_reducible first | exact HI0.out | apply IsS46.alloc | apply IsS46.drewN | apply IsS46.drew | apply IsS46.set_1 | refine IsS46.far ?_ NB0_166.out _ | refine IsS46.far ?_ NB0_173.out _) | exact HI0.out)⟩, ⟨by repeat (first | (with_reducible first | exact HK.out | apply KeepBut.set_ | apply keep_drewN | apply keep_drew | apply keep_alloc | refine keep_far ?_ GW166.out _ | refine keep_far ?_ GW173.out _) | exact HK.out)⟩, ⟨by repeat (first | (with_reducible first | exact HB.out | apply yF | apply yG | apply yH | refine yI ?_ (IsS46.ge HI0.out) | refine yI ?_ GE166.out | refine yI ?_ GE173.out) | exact HB.out)⟩⟩
               ·rw [if_neg c74] at H
                have c74b0 : (x10_21 == 6) = false := beq_eq_false_iff_ne.mpr c74
                have c74b1 : (x10_21 != 6) = true := bne_iff_ne.mpr c74
                have H' := yJ H
                clear H
                go_wp2
                go_meet
                case rel => exact ⟨_, (t171), (0), ((⟨#[]⟩ : ByteArray)), (0), ((⟨#[]⟩ : ByteArray)), (0), H', ⟨by have := HJ7.out; have := HJ14.out; have := HJ16.out; have := HJ21.out; first | omega | exact Nat.le_refl _⟩, ⟨pk BK166.out⟩, ⟨by (with_reducible repeat (first | refine yA ?_ _ | refine yB ?_ | refine yC ?_ _)); refine blk_put (cs := #[.int .i64 x10_21, .string (⟨#[]⟩ : ByteArray), .int .i64 0, .slice none 0 0]) ?_ 3 _ rfl; (with_reducible repeat (first | refine yA ?_ _ | refine yB ?_ | refine yC ?_ _)); refine blk_put (cs := #[.int .i64 x10_21, .string (⟨#[]⟩ : ByteArray), .int .i64 0, .slice none 0 0]) ?_ 2 _ rfl; (with_reducible repeat (first | refine yA ?_ _ | refine yB ?_ | refine yC ?_ _)); refine blk_put (cs := #[.int .i64 x10_21, .string (⟨#[]⟩ : ByteArray), .int .i64 0, .slice none 0 0]) ?_ 1 _ rfl; (with_reducible repeat (first | refine yA ?_ _ | refine yB ?_ | refine yC ?_ _)); refine blk_put (cs := #[.int .i64 0, .string (⟨#[]⟩ : ByteArray), .int .i64 0, .slice none 0 0]) ?_ 0 _ rfl; (with_reducible repeat (first | refine yA ?_ _ | refine yB ?_ | refine yC ?_ _)); exact BK173.out⟩, ⟨by repeat (first | (with_reducible first | exact HI0.out | apply IsS46.alloc | apply IsS46.drewN | apply IsS46.drew | apply IsS46.set_1 | refine IsS46.far ?_ NB0_166.out _ | refine IsS46.far ?_ NB0_173.out _) | exact HI0.out)⟩, ⟨by repeat (first | (with_reducible first | exact HK.out | apply KeepBut.set_ | apply keep_drewN | apply keep_drew | apply keep_alloc | refine keep_far ?_ GW166.out _ | refine keep_far ?_ GW173.out _) | exact HK.out)⟩, ⟨by repeat (first | (with_reducible first | exact HB.out | apply yF | apply yG | apply yH | refine yI ?_ (IsS46.ge HI0.out) | refine yI ?_ GE166.out | refine yI ?_ GE173.out) | exact HB.out)⟩⟩
           case rest =>
            clear HC24
            try clear c1
            try clear p1
            try clear q1
            try clear hx1
            try clear qi1
            try clear c2
            try clear p2
            try clear c3
            try clear c4
            try clear c5
            try clear c6
            try clear c6b0
            try clear p6
            try clear c7
            try clear c7b0
            try clear c9
            try clear c14
            try clear c14b0
            try clear c16
            try clear p17
            try clear q17
            try clear hx17
            try clear c18
            try clear c18b0
            try clear c18b1
            try clear qi18
            try clear c19
            try clear c19b0
            try clear c19b1
            try clear p19
            try clear q19
            try clear hx19
            try clear c20
            try clear c20b0
            try clear c20b1
            try clear c21
            try clear c21b0
            try clear c21b1
            try clear c23
            try clear c26
            try clear c27
            try clear c29
            try clear c29b0
            try clear c29b1
            try clear c31
            try clear c31b0
            try clear c32
            try clear c32b0
            try clear c45
            try clear c52
            try clear c53
            try clear c55
            try clear c57
            try clear c57b0
            try clear c57b1
            try clear c59
            try clear c59b0
            try clear c60
            try clear c60b0
            try clear p64
            try clear c65
            try clear c66
            try clear c68
            try clear c68b0
            try clear c68b1
            try clear c71
            try clear c72
            try clear c74
            try clear c74b0
            try clear c74b1
            try clear c77
            try clear c78
            try clear hcz28_0
            try clear hcz28_1
            try clear hcz28_2
            try clear hcz28_3
            try clear hcz54_0
            try clear hcz54_1
            try clear hcz54_2
            try clear hcz54_3
            try clear hcz56_0
            try clear hcz56_1
            try clear hcz56_2
            try clear hcz56_3
            try clear hcz67_0
            try clear hcz67_1
            try clear hcz67_2
            try clear hcz67_3
            try clear hcz73_0
            try clear hcz73_1
            try clear hcz73_2
            try clear hcz73_3
            try clear hcz79_0
            try clear hcz79_1
            try clear hcz79_2
            try clear hcz79_3
            try clear hfz28_0
            try clear hfz28_1
            try clear hfz28_2
            try clear hfz28_3
            try clear hfz54_0
            try clear hfz54_1
            try clear hfz54_2
            try clear hfz54_3
            try clear hfz56_0
            try clear hfz56_1
            try clear hfz56_2
            try clear hfz56_3
            try clear hfz67_0
            try clear hfz67_1
            try clear hfz67_2
            try clear hfz67_3
            try clear hfz73_0
            try clear hfz73_1
            try clear hfz73_2
            try clear hfz73_3
            try clear hfz79_0
            try clear hfz79_1
            try clear hfz79_2
            try clear hfz79_3
            try clear hx172_0
            try clear hx198_0
            try clear p1
            try clear p17
            try clear p172
            try clear p198
            try clear p2
            try clear q1
            try clear q17
            try clear q172
            try clear q198
            obtain ⟨kq, x1001_23, x167000_23, x167001_23, x167002_23, x174001_23, x174002_23, HA, HJ23, BK166, BK173, HI0, HK, HB⟩ := hcut
            cases kq with
            | zero => exact absurd HA.out (by simp [fm_Term.j4])
            | succ kj23 =>
             have H := HA.out;clear HA
             simp only [fm_Term.j4] at H
             by_cases c80 : a1 > 0
             ·rw [if_pos c80] at H
              have c80b0 : decide (0 < a1) = true := decide_eq_true c80
              clear c80;replace H := yK H
              obtain ⟨⟨t203, t204⟩, A810, H⟩ := H
              replace H : (fm_Term.l0 kj23 a1 a2 a3 t203 s0_0 t204 x10_21 x174001_23 x174002_23 ([] : List (S25))) = some (r1, r2, r3, r4, r5) := H
              have A81 := yJ A810;clear A810
              have H' := yJ H
              clear H
              go_wp2_with (first | ((with_reducible refine gate_callee (f := 90) rfl ?_); refine goesL_ (some 87) rfl rfl Tryd.func90 (by kernel_rfl) rfl #[.pointer (some ⟨g, 0, none⟩), .int .i64 3] rfl (by (try simp only [List.map_toArray, List.map_cons, List.map_nil]); first | done | rfl | (simp only [List.length_drop, List.length_take]; rfl)) ?_; (with_reducible refine (fm_Tape_Next.calls g s0_0 x1001_23 3 t203 t204 w0 _ ?side1 ?side2 A81.out).mono ?_); (case side1 => repeat (first | (with_reducible first | exact HI0.out | apply IsS46.alloc | apply IsS46.drewN | apply IsS46.drew | apply IsS46.set_1 | refine IsS46.far ?_ NB0_166.out _ | refine IsS46.far ?_ NB0_173.out _) | exact HI0.out)); (case side2 => repeat (first | (with_reducible first | exact HB.out | apply yF | apply yG | apply yH | refine yI ?_ (IsS46.ge HI0.out) | refine yI ?_ GE166.out | refine yI ?_ GE173.out) | exact HB.out)); rintro e w82 ⟨rfl, hi, hb, hk⟩; refine ⟨_, rfl, ?_⟩; have n0_ := yJ (KeepBut.blk hk (g' := gb166) (o := .cells #[.int .i64 x167000_23, .string x167001_23, .int .i64 x167002_23, .slice none 0 0] 25 (0, 0)) (pk BK166.out) NB166_0.out (by simp)); have n1_ := yJ (KeepBut.blk hk (g' := gb173) (o := .cells #[.int .i64 x10_21, .string x174001_23, .int .i64 x174002_23, .slice none 0 0] 25 (0, 0)) (pk BK173.out) NB173_0.out (by simp)); have n2_ := yJ (KeepBut.trans (by repeat (first | (with_reducible first | exact HK.out | apply KeepBut.set_ | apply keep_drewN | apply keep_drew | apply keep_alloc | refine keep_far ?_ GW166.out _ | refine keep_far ?_ GW173.out _) | exact HK.out)) hk (.inl rfl)); have n3_ := yJ (hb); have n4_ := yJ (hi); clear BK166; clear BK173; clear HK; clear HB; clear HI0; have BK166 := n0_; have BK173 := n1_; have HK := n2_; have HB := n3_; have HI0 := n4_; clear n0_ n1_ n2_ n3_ n4_; (try clear hb); (try clear hb2); (try clear hk); (try clear hi)))
              go_loopg [12] kj23 (fun kq v12 w' => ∃ (x12_6 : Int) (x1001_6 : Int) (x174003_6 : List (S25)) (u174003 : Value), v12 = .int .i64 x12_6 ∧ Aside0 (fm_Term.l0 kq a1 a2 a3 x12_6 s0_0 x1001_6 x10_21 x174001_23 x174002_23 x174003_6 = some (r1, r2, r3, r4, r5)) ∧ Aside0 (kq ≤ kj23) ∧ Aside0 (Kd.N k25 25 w' w.heap.size (fun k_ => (w.heap.size ≤ k_) ∧ k_ ≠ gb166 ∧ k_ ≠ gb173 ∧ k_ ≠ g) u174003 x174003_6) ∧ Aside0 (w'.heap[gb166]? = some (.cells #[.int .i64 x167000_23, .string x167001_23, .int .i64 x167002_23, (.slice none 0 0)] 25 (0, 0))) ∧ Aside0 (w'.heap[gb173]? = some (.cells #[.int .i64 x10_21, .string x174001_23, .int .i64 x174002_23, u174003] 25 (0, 0))) ∧ Aside0 (IsS46 w0 w' g s0_0 x1001_6) ∧ Aside0 (KeepBut w w' g none) ∧ Aside0 (Below w0.heap.size w0 w'))
              case atStart => exact ⟨(t203), (t204), (([] : List (S25))), (.slice none 0 0), (by first | rfl | (simp; done) | (simp [*]; done)), H', ⟨Nat.le_refl _⟩, ⟨by first | exact Kd.R_nil _ _ _ _ _ | exact Kd.N_nil _ _ _ _ _ | exact Kd.V_nil _ _ _ _ _ | exact Kd.Q_nil _ _ _ _ _ | exact Kd.S_nil _ _ _ _ _⟩, ⟨pk BK166.out⟩, ⟨pk BK173.out⟩, ⟨by repeat (first | (with_reducible first | exact HI0.out | apply IsS46.alloc | apply IsS46.drewN | apply IsS46.drew | apply IsS46.set_1 | refine IsS46.far ?_ NB0_166.out _ | refine IsS46.far ?_ NB0_173.out _) | exact HI0.out)⟩, ⟨by repeat (first | (with_reducible first | exact HK.out | apply KeepBut.set_ | apply keep_drewN | apply keep_drew | apply keep_alloc | refine keep_far ?_ GW166.out _ | refine keep_far ?_ GW173.out _) | exact HK.out)⟩, ⟨by repeat (first | (with_reducible first | exact HB.out | apply yF | apply yG | apply yH | refine yI ?_ (IsS46.ge HI0.out) | refine yI ?_ GE166.out | refine yI ?_ GE173.out) | exact HB.out)⟩⟩
              case round =>
               clear H'
               try clear c1
               try clear p1
               try clear q1
               try clear hx1
               try clear qi1
               try clear c2
               try clear p2
               try clear c3
               try clear c4
               try clear c5
               try clear c6
               try clear c6b0
               try clear p6
               try clear c7
               try clear c7b0
               try clear c8
               try clear c9
               try clear c14
               try clear c14b0
               try clear c16
               try clear p17
               try clear q17
               try clear hx17
               try clear c18
               try clear c18b0
               try clear c18b1
               try clear qi18
               try clear c19
               try clear c19b0
               try clear c19b1
               try clear p19
               try clear q19
               try clear hx19
               try clear c20
               try clear c20b0
               try clear c20b1
               try clear c21
               try clear c21b0
               try clear c21b1
               try clear c23
               try clear c26
               try clear c27
               try clear c29
               try clear c29b0
               try clear c29b1
               try clear c31
               try clear c31b0
               try clear c32
               try clear c32b0
               try clear c45
               try clear c52
               try clear c53
               try clear c55
               try clear c57
               try clear c57b0
               try clear c57b1
               try clear c59
               try clear c59b0
               try clear c60
               try clear c60b0
               try clear p64
               try clear c65
               try clear c66
               try clear c68
               try clear c68b0
               try clear c68b1
               try clear c71
               try clear c72
               try clear c74
               try clear c74b0
               try clear c74b1
               try clear c77
               try clear c78
               try clear c80
               try clear c80b0
               try clear hcz28_0
               try clear hcz28_1
               try clear hcz28_2
               try clear hcz28_3
               try clear hcz54_0
               try clear hcz54_1
               try clear hcz54_2
               try clear hcz54_3
               try clear hcz56_0
               try clear hcz56_1
               try clear hcz56_2
               try clear hcz56_3
               try clear hcz67_0
               try clear hcz67_1
               try clear hcz67_2
               try clear hcz67_3
               try clear hcz73_0
               try clear hcz73_1
               try clear hcz73_2
               try clear hcz73_3
               try clear hcz79_0
               try clear hcz79_1
               try clear hcz79_2
               try clear hcz79_3
               try clear hfz28_0
               try clear hfz28_1
               try clear hfz28_2
               try clear hfz28_3
               try clear hfz54_0
               try clear hfz54_1
               try clear hfz54_2
               try clear hfz54_3
               try clear hfz56_0
               try clear hfz56_1
               try clear hfz56_2
               try clear hfz56_3
               try clear hfz67_0
               try clear hfz67_1
               try clear hfz67_2
               try clear hfz67_3
               try clear hfz73_0
               try clear hfz73_1
               try clear hfz73_2
               try clear hfz73_3
               try clear hfz79_0
               try clear hfz79_1
               try clear hfz79_2
               try clear hfz79_3
               try clear hx172_0
               try clear hx198_0
               try clear p1
               try clear p17
               try clear p172
               try clear p19
               try clear p198
               try clear p2
               try clear p6
               try clear p64
               try clear q1
               try clear q17
               try clear q172
               try clear q19
               try clear q198
               obtain ⟨x12_6, x1001_6, x174003_6, u174003, rfl, HA, HK6, HO_174003, BK166, BK173, HI0, HK, HB⟩ := hrel
               cases gk with
               | zero => exact absurd HA.out (by simp [fm_Term.l0])
               | succ k6 =>
                have H := HA.out;clear HA
                simp only [fm_Term.l0] at H
                by_cases c83 : x12_6 > 0
                ·rw [if_pos c83] at H
                 have c83b0 : decide (0 < x12_6) = true := decide_eq_true c83
                 clear c83;replace H := yK H
                 obtain ⟨⟨t205, t206, t207, t208, t211⟩, A840, H⟩ := H
                 replace H : (if x174003_6.length < 2513169434916 then (fm_Term.l0 k6 a1 a2 a3 (wrap64 (x12_6 - 1)) s0_0 t211 x10_21 x174001_23 x174002_23 (x174003_6 ++ [(⟨t205, t206, t207, t208⟩ : S25)])) else (none)) = some (r1, r2, r3, r4, r5) := H
                 have A84 := yJ A840;clear A840
                 by_cases c85 : x174003_6.length < 2513169434916
                 ·rw [if_pos c85] at H
                  have LMc85 := yJ c85;clear c85
                  obtain ⟨y212, hy212⟩ : ∃ y_ : List (S25), y_ = (x174003_6 ++ [(⟨t205, t206, t207, t208⟩ : S25)]) := ⟨_, rfl⟩
                  replace H : (fm_Term.l0 k6 a1 a2 a3 (wrap64 (x12_6 - 1)) s0_0 t211 x10_21 x174001_23 x174002_23 y212) = some (r1, r2, r3, r4, r5) := by first | (rw [hy212]; with_reducible exact H) | (have H2_ := (Option.bind_some _ _).symm.trans H; rw [hy212]; with_reducible exact H2_) | (have H2_ := (Option.bind_some _ _).symm.trans H; with_reducible exact H2_) | with_reducible exact H | (rw [hy212]; exact H) | exact H
                  have Ny212 := yJ hy212;clear hy212
                  have H' := yJ H
                  clear H
                  try go_wp2
                  have n0_ := yJ (Kd.N_drew HO_174003.out)
                  have n1_ := yJ (yB BK166.out)
                  have n2_ := yJ (yB BK173.out)
                  have n3_ := yJ (IsS46.drew HI0.out)
                  have n4_ := yJ (keep_drew HK.out)
                  have n5_ := yJ (yH HB.out)
                  clear HO_174003 BK166 BK173 HI0 HK HB;have HO_174003 := n0_;have BK166 := n1_;have BK173 := n2_;have HI0 := n3_;have HK := n4_;have HB := n5_;clear n0_ n1_ n2_ n3_ n4_ n5_
                  refine start_ (n := 12) (S := fun w' => w'.cell? ⟨gb173, 0, none⟩ = some (.int .i64 x10_21) ∧ w'.cell? ⟨gb173, 1, none⟩ = some (.string x174001_23) ∧ w'.cell? ⟨gb173, 2, none⟩ = some (.int .i64 x174002_23) ∧ w'.cell? ⟨gb173, 3, none⟩ = some (u174003)) (ds := [11]) #[false, false, false, false, false, false, false, false, false, false, false, false] (by kernel_rfl) rfl rfl ⟨(yE BK173.out 0).trans rfl, (yE BK173.out 1).trans rfl, (yE BK173.out 2).trans rfl, (yE BK173.out 3).trans rfl⟩ (fun hHeld => ?_); refine with_tabW fm_Term.tab23 fm_Term.bits23 (fun HT_ HW_ => ?_)
                  generalize wr.drew = w86 at HO_174003 BK166 BK173 HI0 HK HB hHeld ⊢
                  refine pure_ (i := 0) (N := some 92) (v := ?_) (a' := ?_) #[true, false, false, false, false, false, false, false, false, false, false, false] rfl rfl (any_of HT_.out (by kernel_rfl)) (fun _ _ _ h => h) (Or.inl ⟨by rfl, ?_⟩) ?_ ?_
                  rotate_left
                  ·intro w'
                   go_simp;with_reducible rfl
                  rotate_left
                  ·simp only [Act.put, List.setIfInBounds_toArray, List.set_cons_zero, List.set_cons_succ, i64_w, i32_w]
                   rfl
                  refine pure_ (i := 2) (N := some 94) (v := ?_) (a' := ?_) #[true, false, true, false, false, false, false, false, false, false, false, false] rfl rfl (any_of HT_.out (by kernel_rfl)) (fun _ _ _ h => h) (Or.inl ⟨by rfl, ?_⟩) ?_ ?_
                  rotate_left
                  ·intro w'
                   go_simp;with_reducible rfl
                  rotate_left
                  ·simp only [Act.put, List.setIfInBounds_toArray, List.set_cons_zero, List.set_cons_succ, i64_w, i32_w]
                   rfl
                  refine pure_ (i := 3) (N := some 95) (v := ?_) (a' := ?_) #[true, false, true, true, false, false, false, false, false, false, false, false] rfl rfl (any_of HT_.out (by kernel_rfl)) (fun _ _ _ h => h) (Or.inl ⟨by rfl, ?_⟩) ?_ ?_
                  rotate_left
                  ·intro w'
                   go_simp;with_reducible rfl
                  rotate_left
                  ·simp only [Act.put, List.setIfInBounds_toArray, List.set_cons_zero, List.set_cons_succ, i64_w, i32_w]
                   rfl
                  refine pure_ (i := 4) (N := some 96) (v := ?_) (a' := ?_) #[true, false, true, true, true, false, false, false, false, false, false, false] rfl rfl (any_of HT_.out (by kernel_rfl)) (fun _ _ _ h => h) (Or.inl ⟨by rfl, ?_⟩) ?_ ?_
                  rotate_left
                  ·intro w'
                   go_simp;with_reducible rfl
                  rotate_left
                  ·simp only [Act.put, List.setIfInBounds_toArray, List.set_cons_zero, List.set_cons_succ, i64_w, i32_w]
                   rfl
                  refine pure_ (i := 5) (N := some 97) (v := ?_) (a' := ?_) #[true, false, true, true, true, true, false, false, false, false, false, false] rfl rfl (any_of HT_.out (by kernel_rfl)) (fun _ _ _ h => h) (Or.inl ⟨by rfl, ?_⟩) ?_ ?_
                  rotate_left
                  ·intro w'
                   go_simp;with_reducible rfl
                  rotate_left
                  ·simp only [Act.put, List.setIfInBounds_toArray, List.set_cons_zero, List.set_cons_succ, i64_w, i32_w]
                   rfl
                  refine pure_ (i := 6) (N := some 98) (v := ?_) (a' := ?_) #[true, false, true, true, true, true, true, false, false, false, false, false] rfl rfl (any_of HT_.out (by kernel_rfl)) (fun _ _ _ h => h) (Or.inl ⟨by rfl, ?_⟩) ?_ ?_
                  rotate_left
                  ·intro w'
                   go_simp;with_reducible rfl
                  rotate_left
                  ·simp only [Act.put, List.setIfInBounds_toArray, List.set_cons_zero, List.set_cons_succ, i64_w, i32_w]
                   rfl
                  refine take_ (i := 1) (N := some 93) (v := ?_) (a' := ?_) #[true, true, true, true, true, true, true, false, false, false, false, false] rfl rfl (take_ofW HT_.out HW_.out (by kernel_rfl)) (fun _ _ _ h => h) (Or.inl ⟨by rfl, ?_⟩) hHeld ?_ ?_
                  rotate_left
                  ·rintro w' ⟨s0, s1, s2, s3⟩
                   go_simp;with_reducible rfl
                  rotate_left
                  ·simp only [Act.put, List.setIfInBounds_toArray, List.set_cons_zero, List.set_cons_succ, i64_w, i32_w]
                   rfl
                  refine one_ (i := 7) (N := some 99) #[true, true, true, true, true, true, true, true, false, false, false, false] rfl rfl (one_of HT_.out (by kernel_rfl)) (by decide) (fun K hK => ?_)
                  refine goes_ Tryd.func45 (by kernel_rfl) rfl #[.pointer (some ⟨g, 0, none⟩), .int .i64 (wrap64 (a1 - 1)), .int .i64 a2, .int .i64 a3] (by rfl) rfl rfl (by (try simp only [List.map_toArray, List.map_cons, List.map_nil]); first | done | rfl | (simp only [List.length_drop, List.length_take]; rfl)) ?_
                  with_reducible refine (ih k6 (by have := HJ7.out; have := HJ14.out; have := HJ16.out; have := HJ21.out; have := HJ23.out; have := HK6.out; omega) g s0_0 x1001_6 (wrap64 (a1 - 1)) a2 a3 t205 t206 t207 t208 t211 w0 _ ?side1 ?side2 A84.out HNL.out).mono ?_
                  (case side1 => repeat (first | (with_reducible first | exact HI0.out | apply IsS46.alloc | apply IsS46.drewN | apply IsS46.drew | apply IsS46.set_1 | refine IsS46.far ?_ NB0_166.out _ | refine IsS46.far ?_ NB0_173.out _) | exact HI0.out))
                  (case side2 => repeat (first | (with_reducible first | exact HB.out | apply yF | apply yG | apply yH | refine yI ?_ (IsS46.ge HI0.out) | refine yI ?_ GE166.out | refine yI ?_ GE173.out) | exact HB.out))
                  rintro e w87 ⟨v209, rfl, ho0, hi, hb, hk⟩
                  refine ⟨_, rfl, ?_⟩
                  have n0_ := yJ (Kd.N_mono (Kd.N_told (Kd.N_oldK (Kd.N_mono (ok := fun k_ => (((w.heap.size ≤ k_)) ∧ (k_ ≠ gb166 ∧ (k_ ≠ gb173 ∧ k_ ≠ g)))) (by (with_reducible repeat (first | apply Kd.N_alloc | apply Kd.N_drewN | apply Kd.N_drew)); exact HO_174003.out) (fun k_ hk_ => (⟨hk_, hk_.2.2.2⟩ : _ ∧ k_ ≠ g))) hk) (Kd.N_base ho0)) (fun _ h_ => h_.1))
                  have n1_ := yJ (KeepBut.blk hk (g' := gb166) (o := .cells #[.int .i64 x167000_23, .string x167001_23, .int .i64 x167002_23, .slice none 0 0] 25 (0, 0)) (pk BK166.out) NB166_0.out (by simp))
                  have n2_ := yJ (KeepBut.blk hk (g' := gb173) (o := .cells #[.int .i64 x10_21, .string x174001_23, .int .i64 x174002_23, u174003] 25 (0, 0)) (pk BK173.out) NB173_0.out (by simp))
                  have n3_ := yJ (Kd.N_lower (Kd.N_mono (ok' := fun k_ => (w.heap.size ≤ k_) ∧ some k_ ≠ (u174003 : Value).ownBlock ∧ k_ ≠ gb166 ∧ k_ ≠ gb173 ∧ k_ ≠ g) ho0 (fun k_ hk_ => ⟨(Nat.le_trans (keep_size (w := w) (g := g) (row := none) (by repeat (first | (with_reducible first | exact HK.out | apply KeepBut.set_ | apply keep_drewN | apply keep_drew | apply keep_alloc | refine keep_far ?_ GW166.out _ | refine keep_far ?_ GW173.out _) | exact HK.out))) hk_), (Kd.fresh' (Kd.N_lt (by (with_reducible repeat (first | apply Kd.N_alloc | apply Kd.N_drewN | apply Kd.N_drew)); exact HO_174003.out)) k_ hk_), (Kd.freshB (g := gb166) (o := .cells #[.int .i64 x167000_23, .string x167001_23, .int .i64 x167002_23, .slice none 0 0] 25 (0, 0)) (pk BK166.out) k_ hk_), (Kd.freshB (g := gb173) (o := .cells #[.int .i64 x10_21, .string x174001_23, .int .i64 x174002_23, u174003] 25 (0, 0)) (pk BK173.out) k_ hk_), (IsS46.fresh (by repeat (first | (with_reducible first | exact HI0.out | apply IsS46.alloc | apply IsS46.drewN | apply IsS46.drew | apply IsS46.set_1 | refine IsS46.far ?_ NB0_166.out _ | refine IsS46.far ?_ NB0_173.out _) | exact HI0.out)) k_ hk_)⟩)) (keep_size (w := w) (g := g) (row := none) (by repeat (first | (with_reducible first | exact HK.out | apply KeepBut.set_ | apply keep_drewN | apply keep_drew | apply keep_alloc | refine keep_far ?_ GW166.out _ | refine keep_far ?_ GW173.out _) | exact HK.out))))
                  have n4_ := yJ (KeepBut.trans (by repeat (first | (with_reducible first | exact HK.out | apply KeepBut.set_ | apply keep_drewN | apply keep_drew | apply keep_alloc | refine keep_far ?_ GW166.out _ | refine keep_far ?_ GW173.out _) | exact HK.out)) hk (.inl rfl))
                  have n5_ := yJ (hb)
                  have n6_ := yJ (hi)
                  clear HO_174003 BK166 BK173 HK HB HI0;have HO_174003 := n0_;have BK166 := n1_;have BK173 := n2_;have HO210 := n3_;have HK := n4_;have HB := n5_;have HI0 := n6_;clear n0_ n1_ n2_ n3_ n4_ n5_ n6_;(try clear hb);(try clear hb2);(try clear hk);(try clear hi);(try clear ho0)
                  obtain ⟨Ao89, co89, eo89⟩ := Kd.N_slice HO210.out
                  (first | subst eo89 | (injection eo89 with f1_ f2_ f3_; have f4_ := f1_.symm; have f5_ := f3_.symm; clear f1_ f2_ f3_; subst f4_; subst f5_))
                  refine hK.out _ _ ⟨(yE BK173.out 0).trans rfl, (yE BK173.out 1).trans rfl, (yE BK173.out 2).trans rfl, (yE BK173.out 3).trans rfl⟩ (fun hHeld => ?_)
                  clear hK K
                  refine norm_ (a' := ?_) ?_ ?_
                  rotate_left
                  ·show Act.put _ (some 99) _ = _
                   simp only [Act.put, List.setIfInBounds_toArray, List.set_cons_zero, List.set_cons_succ, i64_w, i32_w]
                   rfl
                  refine one_ (i := 8) (N := some 100) #[true, true, true, true, true, true, true, true, true, false, false, false] rfl rfl (one_of HT_.out (by kernel_rfl)) (by decide) (fun K hK => ?_)
                  refine value_ (w1 := ?_) (v := ?_) (by rfl) rfl ?_ ?_
                  rotate_left 2
                  ·go_simp
                   constructor
                   ·rfl
                   ·rfl
                  refine hK.out _ _ ⟨(yE (yC BK173.out _) 0).trans rfl, (yE (yC BK173.out _) 1).trans rfl, (yE (yC BK173.out _) 2).trans rfl, (yE (yC BK173.out _) 3).trans rfl⟩ (fun hHeld => ?_)
                  clear hK K
                  refine norm_ (a' := ?_) ?_ ?_
                  rotate_left
                  ·show Act.put _ (some 100) _ = _
                   simp only [Act.put, List.setIfInBounds_toArray, List.set_cons_zero, List.set_cons_succ, i64_w, i32_w]
                   rfl
                  refine one_ (i := 9) (N := some 101) #[true, true, true, true, true, true, true, true, true, true, false, false] rfl rfl (one_of HT_.out (by kernel_rfl)) (by decide) (fun K hK => ?_)
                  refine Kd.N_append_step k25 w.heap.size (by rfl) (.tmp 93) (.tmp 100) 23 25 (.agg #[(.int .i64 0), (.string ⟨#[]⟩), (.int .i64 0), (.slice none 0 0)]) 56 rfl Tryd.underlying23 info25 rfl (by decide) (by omega) u174003 x174003_6 (⟨t205, t206, t207, t208⟩ : S25) [.int .i64 t205, .string t206, .int .i64 t207, .slice Ao89 t208.length co89] (fun k_ => (w.heap.size ≤ k_) ∧ k_ ≠ gb166 ∧ k_ ≠ gb173 ∧ k_ ≠ g) (fun k_ => ((fun k_ => (w.heap.size ≤ k_) ∧ k_ ≠ gb166 ∧ k_ ≠ gb173 ∧ k_ ≠ g)) k_ ∧ some k_ ≠ (u174003 : Value).ownBlock) rfl rfl ?aP (fun _ hk => hk) ?aF ?aO (Below.refl _ _) ?aS ?aL ?_
                  (case aP => exact (k25_mkF _ _ (⟨t205, t206, t207, t208⟩ : S25) (Kd.N_reads' (Kd.N_mono (ok' := (fun k_ => ((fun k_ => (w.heap.size ≤ k_) ∧ k_ ≠ gb166 ∧ k_ ≠ gb173 ∧ k_ ≠ g)) k_ ∧ some k_ ≠ (u174003 : Value).ownBlock)) (HO210.out) (fun k_ hk => ⟨⟨hk.1, ⟨hk.2.2.1, ⟨hk.2.2.2.1, hk.2.2.2.2⟩⟩⟩, hk.2.1⟩))).2.1 (Kd.N_F (Kd.N_mono (ok' := (fun k_ => ((fun k_ => (w.heap.size ≤ k_) ∧ k_ ≠ gb166 ∧ k_ ≠ gb173 ∧ k_ ≠ g)) k_ ∧ some k_ ≠ (u174003 : Value).ownBlock)) (HO210.out) (fun k_ hk => ⟨⟨hk.1, ⟨hk.2.2.1, ⟨hk.2.2.2.1, hk.2.2.2.2⟩⟩⟩, hk.2.1⟩)))))
                  (case aF => exact (fun k_ hk => ⟨(Nat.le_trans (keep_size (w := w) (g := g) (row := none) (by repeat (first | (with_reducible first | exact HK.out | apply KeepBut.set_ | apply keep_drewN | apply keep_drew | apply keep_alloc | refine keep_far ?_ GW166.out _ | refine keep_far ?_ GW173.out _) | exact HK.out))) hk), Kd.freshB (g := gb166) (o := .cells #[.int .i64 x167000_23, .string x167001_23, .int .i64 x167002_23, .slice none 0 0] 25 (0, 0)) (pk BK166.out) k_ hk, Kd.freshB (g := gb173) (o := .cells #[.int .i64 x10_21, .string x174001_23, .int .i64 x174002_23, u174003] 25 (0, 0)) (pk BK173.out) k_ hk, IsS46.fresh (by repeat (first | (with_reducible first | exact HI0.out | apply IsS46.alloc | apply IsS46.drewN | apply IsS46.drew | apply IsS46.set_1 | refine IsS46.far ?_ NB0_166.out _ | refine IsS46.far ?_ NB0_173.out _) | exact HI0.out)) k_ hk⟩))
                  (case aO => exact (by (with_reducible repeat (first | apply Kd.N_alloc | apply Kd.N_drewN | apply Kd.N_drew)); exact Kd.N_mono HO_174003.out (fun _ hk => ⟨hk.1.1, ⟨hk.1.2.1, ⟨hk.1.2.2.1, hk.1.2.2.2⟩⟩⟩)))
                  (case aS => exact (keep_size (w := w) (g := g) (row := none) (by repeat (first | (with_reducible first | exact HK.out | apply KeepBut.set_ | apply keep_drewN | apply keep_drew | apply keep_alloc | refine keep_far ?_ GW166.out _ | refine keep_far ?_ GW173.out _) | exact HK.out))))
                  (case aL => have := LMc85.out; omega)
                  intro v213 w88 ho hb hg hat
                  rw [← Ny212.out] at ho
                  have n0_ := yJ (blk_grown (g := gb166) (o := .cells #[.int .i64 x167000_23, .string x167001_23, .int .i64 x167002_23, .slice none 0 0] 25 (0, 0)) (pk BK166.out) hg (Kd.N_away HO_174003.out (fun _ hk => hk.1.2.1)))
                  have n1_ := yJ (blk_grown (g := gb173) (o := .cells #[.int .i64 x10_21, .string x174001_23, .int .i64 x174002_23, u174003] 25 (0, 0)) (pk BK173.out) hg (Kd.N_away HO_174003.out (fun _ hk => hk.1.2.2.1)))
                  have n2_ := yJ (IsS46.grown (by repeat (first | (with_reducible first | exact HI0.out | apply IsS46.alloc | apply IsS46.drewN | apply IsS46.drew | apply IsS46.set_1 | refine IsS46.far ?_ NB0_166.out _ | refine IsS46.far ?_ NB0_173.out _) | exact HI0.out)) hg (IsS46.own_neN HI0.out HO_174003.out (by decide)))
                  have n3_ := yJ (below_weaken (by repeat (first | (with_reducible first | exact HB.out | apply yF | apply yG | apply yH | refine yI ?_ (IsS46.ge HI0.out) | refine yI ?_ GE166.out | refine yI ?_ GE173.out) | exact HB.out)) HL.out hb)
                  have n4_ := yJ (KeepBut.trans (by repeat (first | (with_reducible first | exact HK.out | apply KeepBut.set_ | apply keep_drewN | apply keep_drew | apply keep_alloc | refine keep_far ?_ GW166.out _ | refine keep_far ?_ GW173.out _) | exact HK.out)) (KeepBut.of_grown hg g) (Kd.N_base2 HO_174003.out))
                  have n5_ := yJ (ho)
                  clear BK166 BK173 HI0 HB HK HO_174003 HO210;have BK166 := n0_;have BK173 := n1_;have HI0 := n2_;have HB := n3_;have HK := n4_;have HO214 := n5_;clear n0_ n1_ n2_ n3_ n4_ n5_ ho hb hg hat
                  obtain ⟨Ao90, co90, eo90⟩ := Kd.N_slice HO214.out
                  (first | subst eo90 | (injection eo90 with f1_ f2_ f3_; have f4_ := f1_.symm; have f5_ := f3_.symm; clear f1_ f2_ f3_; subst f4_; subst f5_))
                  refine hK.out _ _ ⟨(yE BK173.out 0).trans rfl, (yE BK173.out 1).trans rfl, (yE BK173.out 2).trans rfl, (yE BK173.out 3).trans rfl⟩ (fun hHeld => ?_)
                  clear hK K
                  refine norm_ (a' := ?_) ?_ ?_
                  rotate_left
                  ·show Act.put _ (some 101) _ = _
                   simp only [Act.put, List.setIfInBounds_toArray, List.set_cons_zero, List.set_cons_succ, i64_w, i32_w]
                   rfl
                  refine pure_ (i := 10) (N := some 102) (v := ?_) (a' := ?_) #[true, true, true, true, true, true, true, true, true, true, true, false] rfl rfl (any_of HT_.out (by kernel_rfl)) (fun _ _ _ h => h) (Or.inl ⟨by rfl, ?_⟩) ?_ ?_
                  rotate_left
                  ·intro w'
                   go_simp;with_reducible rfl
                  rotate_left
                  ·simp only [Act.put, List.setIfInBounds_toArray, List.set_cons_zero, List.set_cons_succ, i64_w, i32_w]
                   rfl
                  refine last_ (i := 11) (N := none) #[true, true, true, true, true, true, true, true, true, true, true, true] rfl rfl (one_of HT_.out (by kernel_rfl)) (by decide) (fun K hK => ?_)
                  have hs91 : w88.cell? ⟨gb173, 3, none⟩ = some (u174003) := (yE BK173.out 3).trans rfl
                  have hfs91 := yD BK173.out 3
                  have hns91_0 := NB166_173.out;have hms91_0 := NB173_166.out
                  refine skip_ (w1 := ?_) (by rfl) rfl ?_ ?_
                  rotate_left
                  ·go_simp
                   rfl
                  refine hK.out _ _ ?_
                  clear hK K
                  refine done_ (done_of HT_.out (by kernel_rfl)) ?_
                  try go_wp2
                  go_roundg k6
                  case measure => have := HJ7.out; have := HJ14.out; have := HJ16.out; have := HJ21.out; have := HJ23.out; have := HK6.out; omega
                  case rel => exact ⟨(wrap64 (x12_6 - 1)), (t211), (y212), (.slice Ao90 y212.length co90), (by first | rfl | (simp; done) | (simp [*]; done)), H', ⟨by have := HJ7.out; have := HJ14.out; have := HJ16.out; have := HJ21.out; have := HJ23.out; have := HK6.out; omega⟩, ⟨by (with_reducible repeat (first | apply Kd.N_alloc | apply Kd.N_drewN | apply Kd.N_drew)); exact Kd.N_mono (Kd.N_far (p := ⟨gb173, 3, none⟩) (Kd.N_mono HO214.out (fun k_ hk => (⟨hk, hk.2.2.1⟩ : _ ∧ k_ ≠ gb173))) (fun _ hk => hk.2) (.slice Ao90 y212.length co90)) (fun _ hk => ⟨hk.1.1, ⟨hk.1.2.1, ⟨hk.1.2.2.1, hk.1.2.2.2⟩⟩⟩)⟩, ⟨pk BK166.out⟩, ⟨by (with_reducible repeat (first | refine yA ?_ _ | refine yB ?_ | refine yC ?_ _)); refine blk_put (cs := #[.int .i64 x10_21, .string x174001_23, .int .i64 x174002_23, u174003]) ?_ 3 _ rfl; (with_reducible repeat (first | refine yA ?_ _ | refine yB ?_ | refine yC ?_ _)); exact BK173.out⟩, ⟨by repeat (first | (with_reducible first | exact HI0.out | apply IsS46.alloc | apply IsS46.drewN | apply IsS46.drew | apply IsS46.set_1 | refine IsS46.far ?_ NB0_166.out _ | refine IsS46.far ?_ NB0_173.out _) | exact HI0.out)⟩, ⟨by repeat (first | (with_reducible first | exact HK.out | apply KeepBut.set_ | apply keep_drewN | apply keep_drew | apply keep_alloc | refine keep_far ?_ GW166.out _ | refine keep_far ?_ GW173.out _) | exact HK.out)⟩, ⟨by repeat (first | (with_reducible first | exact HB.out | apply yF | apply yG | apply yH | refine yI ?_ (IsS46.ge HI0.out) | refine yI ?_ GE166.out | refine yI ?_ GE173.out) | exact HB.out)⟩⟩
                 ·rw [if_neg c85] at H
                  exact absurd H (by simp)
                ·rw [if_neg c83] at H
                 have c83b0 : decide (0 < x12_6) = false := decide_eq_false c83
                 clear c83
                 simp only [Option.some.injEq, Prod.mk.injEq] at H
                 obtain ⟨rfl, rfl, rfl, rfl, rfl⟩ := H;have hnb92 := NB173_166.out;have hnc92 := NB166_173.out;have hnb93 := NB173_0.out;have hnc93 := NB0_173.out
                 have hcz94_0 : wr.cell? ⟨gb173, 0, none⟩ = some (.int .i64 x10_21) := (yE BK173.out 0).trans rfl
                 have hcz94_1 : wr.cell? ⟨gb173, 1, none⟩ = some (.string x174001_23) := (yE BK173.out 1).trans rfl
                 have hcz94_2 : wr.cell? ⟨gb173, 2, none⟩ = some (.int .i64 x174002_23) := (yE BK173.out 2).trans rfl
                 have hcz94_3 : wr.cell? ⟨gb173, 3, none⟩ = some (u174003) := (yE BK173.out 3).trans rfl
                 have hfz94_0 := yD BK173.out 0
                 have hfz94_1 := yD BK173.out 1
                 have hfz94_2 := yD BK173.out 2
                 have hfz94_3 := yD BK173.out 3
                 have hnb95 := NB166_0.out;have hnc95 := NB0_166.out
                 have hcz96_0 : wr.cell? ⟨gb166, 0, none⟩ = some (.int .i64 x167000_23) := (yE BK166.out 0).trans rfl
                 have hcz96_1 : wr.cell? ⟨gb166, 1, none⟩ = some (.string x167001_23) := (yE BK166.out 1).trans rfl
                 have hcz96_2 : wr.cell? ⟨gb166, 2, none⟩ = some (.int .i64 x167002_23) := (yE BK166.out 2).trans rfl
                 have hcz96_3 : wr.cell? ⟨gb166, 3, none⟩ = some (.slice none 0 0) := (yE BK166.out 3).trans rfl
                 have hfz96_0 := yD BK166.out 0
                 have hfz96_1 := yD BK166.out 1
                 have hfz96_2 := yD BK166.out 2
                 have hfz96_3 := yD BK166.out 3
                 obtain ⟨Ao97, co97, eo97⟩ := Kd.N_slice HO_174003.out
                 subst eo97
                 go_wp2
                 refine bodyPost_ret (results_cell_row rfl _ _ gb166 25 #[.int .i64 x10_21, .string x174001_23, .int .i64 x174002_23, .slice Ao97 x174003_6.length co97] (0, 0) _ rfl (by (with_reducible repeat (first | refine yA ?_ _ | refine yB ?_ | refine yC ?_ _)); refine blk_put (cs := #[.int .i64 x10_21, .string x174001_23, .int .i64 x174002_23, .slice none 0 0]) ?_ 3 _ rfl; (with_reducible repeat (first | refine yA ?_ _ | refine yB ?_ | refine yC ?_ _)); refine blk_put (cs := #[.int .i64 x10_21, .string x174001_23, .int .i64 x167002_23, .slice none 0 0]) ?_ 2 _ rfl; (with_reducible repeat (first | refine yA ?_ _ | refine yB ?_ | refine yC ?_ _)); refine blk_put (cs := #[.int .i64 x10_21, .string x167001_23, .int .i64 x167002_23, .slice none 0 0]) ?_ 1 _ rfl; (with_reducible repeat (first | refine yA ?_ _ | refine yB ?_ | refine yC ?_ _)); refine blk_put (cs := #[.int .i64 x167000_23, .string x167001_23, .int .i64 x167002_23, .slice none 0 0]) ?_ 0 _ rfl; (with_reducible repeat (first | refine yA ?_ _ | refine yB ?_ | refine yC ?_ _)); exact BK166.out) Tryd.underlying25 rfl (by kernel_rfl)) rfl ?_
                 exact ⟨_, by first | rfl | (simp [errW_none, errW_some] <;> rfl) | (simp [*, errW_none, errW_some] <;> rfl), by (with_reducible repeat (first | apply Kd.N_alloc | apply Kd.N_drewN | apply Kd.N_drew)); exact Kd.N_mono (Kd.N_far (p := ⟨gb166, 3, none⟩) (Kd.N_far (p := ⟨gb166, 2, none⟩) (Kd.N_far (p := ⟨gb166, 1, none⟩) (Kd.N_far (p := ⟨gb166, 0, none⟩) (Kd.N_mono HO_174003.out (fun k_ hk => (⟨hk, hk.2.1⟩ : _ ∧ k_ ≠ gb166))) (fun _ hk => hk.2) (.int .i64 x10_21)) (fun _ hk => hk.2) (.string x174001_23)) (fun _ hk => hk.2) (.int .i64 x174002_23)) (fun _ hk => hk.2) (.slice Ao97 x174003_6.length co97)) (fun _ hk => hk.1.1), by repeat (first | (with_reducible first | exact HI0.out | apply IsS46.alloc | apply IsS46.drewN | apply IsS46.drew | apply IsS46.set_1 | refine IsS46.far ?_ NB0_166.out _ | refine IsS46.far ?_ NB0_173.out _) | exact HI0.out), by repeat (first | (with_reducible first | exact HB.out | apply yF | apply yG | apply yH | refine yI ?_ (IsS46.ge HI0.out) | refine yI ?_ GE166.out | refine yI ?_ GE173.out) | exact HB.out), by repeat (first | (with_reducible first | exact HK.out | apply KeepBut.set_ | apply keep_drewN | apply keep_drew | apply keep_alloc | refine keep_far ?_ GW166.out _ | refine keep_far ?_ GW173.out _) | exact HK.out)⟩
             ·rw [if_neg c80] at H
              have c80b0 : decide (0 < a1) = false := decide_eq_false c80
              clear c80
              simp only [Option.some.injEq, Prod.mk.injEq] at H
              obtain ⟨rfl, rfl, rfl, rfl, rfl⟩ := H;have hnb98 := NB173_166.out;have hnc98 := NB166_173.out;have hnb99 := NB173_0.out;have hnc99 := NB0_173.out
              have hcz100_0 : wc.cell? ⟨gb173, 0, none⟩ = some (.int .i64 x10_21) := (yE BK173.out 0).trans rfl
              have hcz100_1 : wc.cell? ⟨gb173, 1, none⟩ = some (.string x174001_23) := (yE BK173.out 1).trans rfl
              have hcz100_2 : wc.cell? ⟨gb173, 2, none⟩ = some (.int .i64 x174002_23) := (yE BK173.out 2).trans rfl
              have hcz100_3 : wc.cell? ⟨gb173, 3, none⟩ = some (.slice none 0 0) := (yE BK173.out 3).trans rfl
              have hfz100_0 := yD BK173.out 0
              have hfz100_1 := yD BK173.out 1
              have hfz100_2 := yD BK173.out 2
              have hfz100_3 := yD BK173.out 3
              have hnb101 := NB166_0.out;have hnc101 := NB0_166.out
              have hcz102_0 : wc.cell? ⟨gb166, 0, none⟩ = some (.int .i64 x167000_23) := (yE BK166.out 0).trans rfl
              have hcz102_1 : wc.cell? ⟨gb166, 1, none⟩ = some (.string x167001_23) := (yE BK166.out 1).trans rfl
              have hcz102_2 : wc.cell? ⟨gb166, 2, none⟩ = some (.int .i64 x167002_23) := (yE BK166.out 2).trans rfl
              have hcz102_3 : wc.cell? ⟨gb166, 3, none⟩ = some (.slice none 0 0) := (yE BK166.out 3).trans rfl
              have hfz102_0 := yD BK166.out 0
              have hfz102_1 := yD BK166.out 1
              have hfz102_2 := yD BK166.out 2
              have hfz102_3 := yD BK166.out 3
              go_wp2
              refine bodyPost_ret (results_cell_row rfl _ _ gb166 25 #[.int .i64 x10_21, .string x174001_23, .int .i64 x174002_23, .slice none 0 0] (0, 0) _ rfl (by (with_reducible repeat (first | refine yA ?_ _ | refine yB ?_ | refine yC ?_ _)); refine blk_put (cs := #[.int .i64 x10_21, .string x174001_23, .int .i64 x174002_23, .slice none 0 0]) ?_ 3 _ rfl; (with_reducible repeat (first | refine yA ?_ _ | refine yB ?_ | refine yC ?_ _)); refine blk_put (cs := #[.int .i64 x10_21, .string x174001_23, .int .i64 x167002_23, .slice none 0 0]) ?_ 2 _ rfl; (with_reducible repeat (first | refine yA ?_ _ | refine yB ?_ | refine yC ?_ _)); refine blk_put (cs := #[.int .i64 x10_21, .string x167001_23, .int .i64 x167002_23, .slice none 0 0]) ?_ 1 _ rfl; (with_reducible repeat (first | refine yA ?_ _ | refine yB ?_ | refine yC ?_ _)); refine blk_put (cs := #[.int .i64 x167000_23, .string x167001_23, .int .i64 x167002_23, .slice none 0 0]) ?_ 0 _ rfl; (with_reducible repeat (first | refine yA ?_ _ | refine yB ?_ | refine yC ?_ _)); exact BK166.out) Tryd.underlying25 rfl (by kernel_rfl)) rfl ?_
              exact ⟨_, by first | rfl | (simp [errW_none, errW_some] <;> rfl) | (simp [*, errW_none, errW_some] <;> rfl), by first | exact Kd.R_nil _ _ _ _ _ | exact Kd.N_nil _ _ _ _ _ | exact Kd.V_nil _ _ _ _ _ | exact Kd.Q_nil _ _ _ _ _ | exact Kd.S_nil _ _ _ _ _, by repeat (first | (with_reducible first | exact HI0.out | apply IsS46.alloc | apply IsS46.drewN | apply IsS46.drew | apply IsS46.set_1 | refine IsS46.far ?_ NB0_166.out _ | refine IsS46.far ?_ NB0_173.out _) | exact HI0.out), by repeat (first | (with_reducible first | exact HB.out | apply yF | apply yG | apply yH | refine yI ?_ (IsS46.ge HI0.out) | refine yI ?_ GE166.out | refine yI ?_ GE173.out) | exact HB.out), by repeat (first | (with_reducible first | exact HK.out | apply KeepBut.set_ | apply keep_drewN | apply keep_drew | apply keep_alloc | refine keep_far ?_ GW166.out _ | refine keep_far ?_ GW173.out _) | exact HK.out)⟩
  ·rw [if_neg c7] at H
   exact absurd H (by simp)
 ·rw [if_neg c6] at H
  exact absurd H (by simp)
theorem fm_Term.calls (k : Nat) (g : Nat) (s0_0 : List Int) (s0_1 : Int) (a1 : Int) (a2 : Int) (a3 : Int) (r1 : Int) (r2 : ByteArray) (r3 : Int) (r4 : List (S25)) (r5 : Int) (w0 w : World) (hI : IsS46 w0 w g s0_0 s0_1) (hB : Below w0.heap.size w0 w) (h : fm_Term.f k s0_0 s0_1 a1 a2 a3 = some (r1, r2, r3, r4, r5)) (hN : NamesLaid w0 := by assumption) :
  Calls Tryd.prog 45 #[.pointer (some ⟨g, 0, none⟩), .int .i64 a1, .int .i64 a2, .int .i64 a3] w fun e w' => ∃ v3_ : Value, e = .returned (.agg #[.int .i64 r1, .string r2, .int .i64 r3, v3_]) ∧ Kd.N k25 25 w' w.heap.size (fun k_ => (w.heap.size ≤ k_)) v3_ r4 ∧ IsS46 w0 w' g s0_0 r5 ∧ Below w0.heap.size w0 w' ∧ KeepBut w w' g none :=
 fm_Term.callsN k g s0_0 s0_1 a1 a2 a3 r1 r2 r3 r4 r5 w0 w hI hB h hN
end Go.Proofs.YtpkkoiljombooaaDoor.G
