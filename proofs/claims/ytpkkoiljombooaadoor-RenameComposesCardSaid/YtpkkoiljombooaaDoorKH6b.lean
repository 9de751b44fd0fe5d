import Derived.Test.YtpkkoiljombooaaDoorKG0
import Derived.Test.YtpkkoiljombooaaDoorKG1
import Derived.Test.YtpkkoiljombooaaDoorKH6
import Derived.Test.YtpkkoiljombooaaDoorKNm
set_option linter.unusedVariables false
set_option linter.unusedSimpArgs false
namespace Go.Proofs.YtpkkoiljombooaaDoor.G
open Go.RowKit Go.Proofs.YtpkkoiljombooaaDoorW.PrintWords Go.Proofs.YtpkkoiljombooaaDoorW.PrintLast Go.Proofs.YtpkkoiljombooaaDoorW.PrintMore
attribute [local go_sem] max2_int min2_int max_two min_two max_three min_three max_four min_four
mutual
def fm_Type.j0 : Nat → Int → Int → Int → Bool → List Int → Int → Option (Int × ByteArray × Int × (List (S25)) × Int)
 | 0, _, _, _, _, _, _ => none
 | k + 1, x1, x2, x3, x18, x1000, x1001 => if x18 = true then ((fm_Type.f k x1000 x1001 (wrap64 (x1 - 1)) x2 x3).bind fun bt155 => ((some (([(⟨#[120]⟩ : ByteArray), (⟨#[121]⟩ : ByteArray), (⟨#[78]⟩ : ByteArray), (⟨#[102]⟩ : ByteArray), (⟨#[95]⟩ : ByteArray), (⟨#[]⟩ : ByteArray)] : List ByteArray) : List ByteArray)).bind fun y163 => ((fm_Tape_Next.f x1000 bt155.2.2.2.2 ((([(⟨#[120]⟩ : ByteArray), (⟨#[121]⟩ : ByteArray), (⟨#[78]⟩ : ByteArray), (⟨#[102]⟩ : ByteArray), (⟨#[95]⟩ : ByteArray), (⟨#[]⟩ : ByteArray)] : List ByteArray)).length : Int)).bind fun bt169 => (if 0 ≤ bt169.1 then (if bt169.1 < (y163.length : Int) then ((fm_Type.f k x1000 bt169.2 (wrap64 (x1 - 1)) (wrap64 (x2 + 1)) x3).bind fun bt172 => (some (2, rdOf ByteArray.empty y163 bt169.1, 0, (([(⟨bt155.1, bt155.2.1, bt155.2.2.1, bt155.2.2.2.1⟩ : S25), (⟨bt172.1, bt172.2.1, bt172.2.2.1, bt172.2.2.2.1⟩ : S25)] : List (S25))), bt172.2.2.2.2))) else (none)) else (none))))) else ((some (([(⟨#[110, 97, 116]⟩ : ByteArray), (⟨#[118, 101, 99]⟩ : ByteArray), (⟨#[116, 109]⟩ : ByteArray)] : List ByteArray) : List ByteArray)).bind fun y182 => ((fm_Tape_Next.f x1000 x1001 3).bind fun bt185 => (if 0 ≤ bt185.1 then (if bt185.1 < (y182.length : Int) then ((fm_Tape_Next.f x1000 bt185.2 3).bind fun bt189 => (fm_Type.l0 k x1 x2 x3 bt189.1 x1000 bt189.2 4 (rdOf ByteArray.empty y182 bt185.1) 0 ([] : List (S25)))) else (none)) else (none))))
def fm_Type.l0 : Nat → Int → Int → Int → Int → List Int → Int → Int → ByteArray → Int → List (S25) → Option (Int × ByteArray × Int × (List (S25)) × Int)
 | 0, _, _, _, _, _, _, _, _, _, _ => none
 | k + 1, x1, x2, x3, x11, x1000, x1001, x189000, x189001, x189002, x189003 => if x11 > 0 then (if x1 > 0 then ((fm_Term.f k x1000 x1001 (wrap64 (x1 - 1)) x2 x3).bind fun bt191 => (if x189003.length < 2513169434916 then (fm_Type.l0 k x1 x2 x3 (wrap64 (x11 - 1)) x1000 bt191.2.2.2.2 x189000 x189001 x189002 (x189003 ++ [(⟨bt191.1, bt191.2.1, bt191.2.2.1, bt191.2.2.2.1⟩ : S25)])) else (none))) else (some (x189000, x189001, x189002, x189003, x1001))) else (some (x189000, x189001, x189002, x189003, x1001))
def fm_Type.f : Nat → List Int → Int → Int → Int → Int → Option (Int × ByteArray × Int × (List (S25)) × Int)
 | 0, _, _, _, _, _ => none
 | k + 1, s0_0, s0_1, a1, a2, a3 => if a1 > 0 then ((fm_Tape_Next.f s0_0 s0_1 2).bind fun bt153 => (fm_Type.j0 k a1 a2 a3 (bt153.1 == 0) s0_0 bt153.2)) else (fm_Type.j0 k a1 a2 a3 false s0_0 s0_1)
end
def fm_Type.T3 : Bool × List (List Nat × List Nat) := (true, [([], []), ([], []), ([], []), ([2], [2]), ([1, 3], [1, 3]), ([0, 4], [0, 4]), ([5], [5]), ([], []), ([], []), ([], []), ([9], [9]), ([], []), ([11], [11]), ([], []), ([8, 10, 12, 13, 4], [8, 10, 12, 13]), ([7, 14], [7, 14]), ([6, 15], [6, 15]), ([16, 14, 0, 1, 2, 3, 4, 5, 6, 7, 8, 9, 10, 11, 12, 13, 14, 15, 16], [16])])
def fm_Type.B3 : List Nat := [0, 0, 0, 4, 14, 31, 63, 0, 0, 0, 512, 0, 2048, 0, 16158, 32670, 65535, 131071]
theorem fm_Type.tab3 : rtab .any (opsOf Tryd.f109 3) = fm_Type.T3 := by kernel_rfl
theorem fm_Type.bits3 : waitsOk fm_Type.T3.2 fm_Type.B3 = true := by kernel_rfl
def fm_Type.T8 : Bool × List (List Nat × List Nat) := (true, [([], []), ([0], [0]), ([], []), ([], []), ([3], [3]), ([], []), ([], []), ([2, 4, 5, 6], [2, 4, 5, 6]), ([7], [7]), ([1, 8, 7], [1, 8]), ([0, 1, 2, 3, 4, 5, 6, 7, 8, 9], []), ([10, 9, 9, 0, 1, 2, 3, 4, 5, 6, 7, 8, 9], [9, 10])])
def fm_Type.B8 : List Nat := [0, 1, 0, 0, 8, 0, 0, 124, 252, 511, 1023, 2047]
theorem fm_Type.tab8 : rtab .any (opsOf Tryd.f109 8) = fm_Type.T8 := by kernel_rfl
theorem fm_Type.bits8 : waitsOk fm_Type.T8.2 fm_Type.B8 = true := by kernel_rfl
set_option maxHeartbeats 8000000 in
set_option maxRecDepth 100000 in
theorem fm_Type.callsN (k : Nat) : ∀ (g : Nat) (s0_0 : List Int) (s0_1 : Int) (a1 : Int) (a2 : Int) (a3 : Int) (r1 : Int) (r2 : ByteArray) (r3 : Int) (r4 : List (S25)) (r5 : Int) (w0 w : World) (hI : IsS46 w0 w g s0_0 s0_1) (hB : Below w0.heap.size w0 w) (h : fm_Type.f k s0_0 s0_1 a1 a2 a3 = some (r1, r2, r3, r4, r5)) (hN : NamesLaid w0),
  Calls Tryd.prog 109 #[.pointer (some ⟨g, 0, none⟩), .int .i64 a1, .int .i64 a2, .int .i64 a3] w fun e w' => ∃ v3_ : Value, e = .returned (.agg #[.int .i64 r1, .string r2, .int .i64 r3, v3_]) ∧ Kd.N k25 25 w' w.heap.size (fun k_ => (w.heap.size ≤ k_)) v3_ r4 ∧ IsS46 w0 w' g s0_0 r5 ∧ Below w0.heap.size w0 w' ∧ KeepBut w w' g none := by
 induction k using Nat.strongRecOn with
 | _ k ih =>
 intro g s0_0 s0_1 a1 a2 a3 r1 r2 r3 r4 r5 w0 w hI hB h hN
 cases k with
 | zero => exact absurd h (by simp [fm_Type.f])
 | succ k =>
 simp only [fm_Type.f] at h
 have hu25 := Tryd.underlying25;have HI0 := yJ hI
 have HK := yJ (KeepBut.refl w g none)
 have HNL := yJ hN
 obtain ⟨NA, Nc, hN0⟩ := hN
 have HN := yJ hN0;clear hN0
 have HL := yJ hB.size
 clear hI
 have HW0 := yJ hB.size
 have HB := yJ hB;clear hB
 have H : (if a1 > 0 then ((fm_Tape_Next.f s0_0 s0_1 2).bind fun bt153 => (fm_Type.j0 k a1 a2 a3 (bt153.1 == 0) s0_0 bt153.2)) else (fm_Type.j0 k a1 a2 a3 false s0_0 s0_1)) = some (r1, r2, r3, r4, r5) := h
 clear h;have HC5 := yJ H;clear H
 go_enter Tryd.func109, Tryd.ntmps109
 go_upto_region 1 with (first | ((with_reducible refine gate_dst (N := 8) rfl ?_); refine box_event ?hg (N := 8) ?hd (cs := #[.int .i64 0, .string (⟨#[]⟩ : ByteArray), .int .i64 0, .slice none 0 0]) (t := 25) ?hr ?_; (case hd => rfl); (case hg => rfl); (case hr => first | (go_simp; done) | (go_simp; rfl)); intro gb152 hg w6 hbox hb; have n0_ := yJ (IsS46.below (by repeat (first | (with_reducible first | exact HI0.out | apply IsS46.alloc | apply IsS46.drewN | apply IsS46.drew | apply IsS46.set_1) | exact HI0.out)) hb); have n1_ := yJ (KeepBut.trans (by repeat (first | (with_reducible first | exact HK.out | apply KeepBut.set_ | apply keep_drewN | apply keep_drew | apply keep_alloc) | exact HK.out)) (KeepBut.of_below hb g none) (.inl rfl)); have n2_ := yJ (below_step (by repeat (first | (with_reducible first | exact HB.out | apply yF | apply yG | apply yH | refine yI ?_ (IsS46.ge HI0.out)) | exact HB.out)) hb); have n3_ := yJ (hbox); have n4_ := yJ ((by rw [hg]; exact (keep_size (w := w) (g := g) (row := none) (by repeat (first | (with_reducible first | exact HK.out | apply KeepBut.set_ | apply keep_drewN | apply keep_drew | apply keep_alloc) | exact HK.out))) : w.heap.size ≤ gb152)); have n5_ := yJ ((Nat.le_trans HW0.out (by rw [hg]; exact (keep_size (w := w) (g := g) (row := none) (by repeat (first | (with_reducible first | exact HK.out | apply KeepBut.set_ | apply keep_drewN | apply keep_drew | apply keep_alloc) | exact HK.out))) : w.heap.size ≤ gb152) : w0.heap.size ≤ gb152)); have n6_ := yJ ((by rw [hg]; exact Nat.ne_of_lt (IsS46.lt (show IsS46 w0 _ g s0_0 s0_1 from by repeat (first | (with_reducible first | exact HI0.out | apply IsS46.alloc | apply IsS46.drewN | apply IsS46.drew | apply IsS46.set_1) | exact HI0.out))) : g ≠ gb152)); have n7_ := yJ ((by rw [hg]; exact Nat.ne_of_gt (IsS46.lt (show IsS46 w0 _ g s0_0 s0_1 from by repeat (first | (with_reducible first | exact HI0.out | apply IsS46.alloc | apply IsS46.drewN | apply IsS46.drew | apply IsS46.set_1) | exact HI0.out))) : gb152 ≠ g)); clear HI0; clear HK; clear HB; have HI0 := n0_; have HK := n1_; have HB := n2_; have BK152 := n3_; have GW152 := n4_; have GE152 := n5_; have NB0_152 := n6_; have NB152_0 := n7_; clear n0_ n1_ n2_ n3_ n4_ n5_ n6_ n7_; clear hb hbox hg))
 (try simp only [Act.put, List.setIfInBounds_toArray, List.set_cons_zero, List.set_cons_succ])
 go_cut [18] (fun v18 wc => ∃ (kq : Nat) (x18_4 : Bool) (x1001_4 : Int), v18 = .bool x18_4 ∧ Aside0 (fm_Type.j0 kq a1 a2 a3 x18_4 s0_0 x1001_4 = some (r1, r2, r3, r4, r5)) ∧ Aside0 (kq ≤ k) ∧ Aside0 (wc.heap[gb152]? = some (.cells #[.int .i64 0, .string (⟨#[]⟩ : ByteArray), .int .i64 0, (.slice none 0 0)] 25 (0, 0))) ∧ Aside0 (IsS46 w0 wc g s0_0 x1001_4) ∧ Aside0 (KeepBut w wc g none) ∧ Aside0 (Below w0.heap.size w0 wc))
 case first =>
  have H := HC5.out;clear HC5
  by_cases c7 : a1 > 0
  ·rw [if_pos c7] at H
   have c7b0 : decide (0 < a1) = true := decide_eq_true c7
   clear c7
   (first | rw [c7b0] | (simp only [i64_w, i32_w]; rw [c7b0]) | skip)
   replace H := yK H
   obtain ⟨⟨t153, t154⟩, A80, H⟩ := H
   replace H : (fm_Type.j0 k a1 a2 a3 (t153 == 0) s0_0 t154) = some (r1, r2, r3, r4, r5) := H
   have A8 := yJ A80;clear A80
   have H' := yJ H
   clear H
   go_wp2_with (first | (go_at_call 90; (with_reducible refine (fm_Tape_Next.calls g s0_0 s0_1 2 t153 t154 w0 _ ?side1 ?side2 A8.out).mono ?_); (case side1 => repeat (first | (with_reducible first | exact HI0.out | apply IsS46.alloc | apply IsS46.drewN | apply IsS46.drew | apply IsS46.set_1 | refine IsS46.far ?_ NB0_152.out _) | exact HI0.out)); (case side2 => repeat (first | (with_reducible first | exact HB.out | apply yF | apply yG | apply yH | refine yI ?_ (IsS46.ge HI0.out) | refine yI ?_ GE152.out) | exact HB.out)); rintro e w9 ⟨rfl, hi, hb, hk⟩; have n0_ := yJ (KeepBut.blk hk (g' := gb152) (o := .cells #[.int .i64 0, .string (⟨#[]⟩ : ByteArray), .int .i64 0, .slice none 0 0] 25 (0, 0)) (pk BK152.out) NB152_0.out (by simp)); have n1_ := yJ (KeepBut.trans (by repeat (first | (with_reducible first | exact HK.out | apply KeepBut.set_ | apply keep_drewN | apply keep_drew | apply keep_alloc | refine keep_far ?_ GW152.out _) | exact HK.out)) hk (.inl rfl)); have n2_ := yJ (hb); have n3_ := yJ (hi); clear BK152; clear HK; clear HB; clear HI0; have BK152 := n0_; have HK := n1_; have HB := n2_; have HI0 := n3_; clear n0_ n1_ n2_ n3_; (try clear hb); (try clear hb2); (try clear hk); (try clear hi)))
   go_meet
   case rel => exact ⟨_, ((t153 == 0)), (t154), (by first | rfl | (simp; done) | (simp [*]; done)), H', ⟨by first | omega | exact Nat.le_refl _⟩, ⟨pk BK152.out⟩, ⟨by repeat (first | (with_reducible first | exact HI0.out | apply IsS46.alloc | apply IsS46.drewN | apply IsS46.drew | apply IsS46.set_1 | refine IsS46.far ?_ NB0_152.out _) | exact HI0.out)⟩, ⟨by repeat (first | (with_reducible first | exact HK.out | apply KeepBut.set_ | apply keep_drewN | apply keep_drew | apply keep_alloc | refine keep_far ?_ GW152.out _) | exact HK.out)⟩, ⟨by repeat (first | (with_reducible first | exact HB.out | apply yF | apply yG | apply yH | refine yI ?_ (IsS46.ge HI0.out) | refine yI ?_ GE152.out) | exact HB.out)⟩⟩
  ·rw [if_neg c7] at H
   have c7b0 : decide (0 < a1) = false := decide_eq_false c7
   clear c7
   (first | rw [c7b0] | (simp only [i64_w, i32_w]; rw [c7b0]) | skip)
   have H' := yJ H
   clear H
   go_wp2
   go_meet
   case rel => exact ⟨_, (false), (s0_1), (by first | rfl | (simp; done) | (simp [*]; done)), H', ⟨by first | omega | exact Nat.le_refl _⟩, ⟨pk BK152.out⟩, ⟨by repeat (first | (with_reducible first | exact HI0.out | apply IsS46.alloc | apply IsS46.drewN | apply IsS46.drew | apply IsS46.set_1 | refine IsS46.far ?_ NB0_152.out _) | exact HI0.out)⟩, ⟨by repeat (first | (with_reducible first | exact HK.out | apply KeepBut.set_ | apply keep_drewN | apply keep_drew | apply keep_alloc | refine keep_far ?_ GW152.out _) | exact HK.out)⟩, ⟨by repeat (first | (with_reducible first | exact HB.out | apply yF | apply yG | apply yH | refine yI ?_ (IsS46.ge HI0.out) | refine yI ?_ GE152.out) | exact HB.out)⟩⟩
 case rest =>
  clear HC5
  try clear c1
  try clear p2
  try clear c7
  try clear c7b0
  obtain ⟨kq, x18_4, x1001_4, rfl, HA, HJ4, BK152, HI0, HK, HB⟩ := hcut
  cases kq with
  | zero => exact absurd HA.out (by simp [fm_Type.j0])
  | succ kj4 =>
   have H := HA.out;clear HA
   simp only [fm_Type.j0] at H
   by_cases c10 : x18_4 = true
   ·subst c10
    have H1 : ((fm_Type.f kj4 s0_0 x1001_4 (wrap64 (a1 - 1)) a2 a3).bind fun bt155 => ((some (([(⟨#[120]⟩ : ByteArray), (⟨#[121]⟩ : ByteArray), (⟨#[78]⟩ : ByteArray), (⟨#[102]⟩ : ByteArray), (⟨#[95]⟩ : ByteArray), (⟨#[]⟩ : ByteArray)] : List ByteArray) : List ByteArray)).bind fun y163 => ((fm_Tape_Next.f s0_0 bt155.2.2.2.2 ((([(⟨#[120]⟩ : ByteArray), (⟨#[121]⟩ : ByteArray), (⟨#[78]⟩ : ByteArray), (⟨#[102]⟩ : ByteArray), (⟨#[95]⟩ : ByteArray), (⟨#[]⟩ : ByteArray)] : List ByteArray)).length : Int)).bind fun bt169 => (if 0 ≤ bt169.1 then (if bt169.1 < (y163.length : Int) then ((fm_Type.f kj4 s0_0 bt169.2 (wrap64 (a1 - 1)) (wrap64 (a2 + 1)) a3).bind fun bt172 => (some (2, rdOf ByteArray.empty y163 bt169.1, 0, (([(⟨bt155.1, bt155.2.1, bt155.2.2.1, bt155.2.2.2.1⟩ : S25), (⟨bt172.1, bt172.2.1, bt172.2.2.1, bt172.2.2.2.1⟩ : S25)] : List (S25))), bt172.2.2.2.2))) else (none)) else (none))))) = some (r1, r2, r3, r4, r5) := by rw [if_pos rfl] at H; exact H
    clear H;have H := H1;clear H1;replace H := yK H
    obtain ⟨⟨t155, t156, t157, t158, t161⟩, A110, H⟩ := H
    replace H : ((some (([(⟨#[120]⟩ : ByteArray), (⟨#[121]⟩ : ByteArray), (⟨#[78]⟩ : ByteArray), (⟨#[102]⟩ : ByteArray), (⟨#[95]⟩ : ByteArray), (⟨#[]⟩ : ByteArray)] : List ByteArray) : List ByteArray)).bind fun y163 => ((fm_Tape_Next.f s0_0 t161 ((([(⟨#[120]⟩ : ByteArray), (⟨#[121]⟩ : ByteArray), (⟨#[78]⟩ : ByteArray), (⟨#[102]⟩ : ByteArray), (⟨#[95]⟩ : ByteArray), (⟨#[]⟩ : ByteArray)] : List ByteArray)).length : Int)).bind fun bt169 => (if 0 ≤ bt169.1 then (if bt169.1 < (y163.length : Int) then ((fm_Type.f kj4 s0_0 bt169.2 (wrap64 (a1 - 1)) (wrap64 (a2 + 1)) a3).bind fun bt172 => (some (2, rdOf ByteArray.empty y163 bt169.1, 0, (([(⟨t155, t156, t157, t158⟩ : S25), (⟨bt172.1, bt172.2.1, bt172.2.2.1, bt172.2.2.2.1⟩ : S25)] : List (S25))), bt172.2.2.2.2))) else (none)) else (none)))) = some (r1, r2, r3, r4, r5) := H
    have A11 := yJ A110;clear A110
    obtain ⟨y163, hy163⟩ : ∃ y_ : List ByteArray, y_ = (([(⟨#[120]⟩ : ByteArray), (⟨#[121]⟩ : ByteArray), (⟨#[78]⟩ : ByteArray), (⟨#[102]⟩ : ByteArray), (⟨#[95]⟩ : ByteArray), (⟨#[]⟩ : ByteArray)] : List ByteArray)) := ⟨_, rfl⟩
    replace H : ((fm_Tape_Next.f s0_0 t161 ((([(⟨#[120]⟩ : ByteArray), (⟨#[121]⟩ : ByteArray), (⟨#[78]⟩ : ByteArray), (⟨#[102]⟩ : ByteArray), (⟨#[95]⟩ : ByteArray), (⟨#[]⟩ : ByteArray)] : List ByteArray)).length : Int)).bind fun bt169 => (if 0 ≤ bt169.1 then (if bt169.1 < (y163.length : Int) then ((fm_Type.f kj4 s0_0 bt169.2 (wrap64 (a1 - 1)) (wrap64 (a2 + 1)) a3).bind fun bt172 => (some (2, rdOf ByteArray.empty y163 bt169.1, 0, (([(⟨t155, t156, t157, t158⟩ : S25), (⟨bt172.1, bt172.2.1, bt172.2.2.1, bt172.2.2.2.1⟩ : S25)] : List (S25))), bt172.2.2.2.2))) else (none)) else (none))) = some (r1, r2, r3, r4, r5) := by first | (rw [hy163]; with_reducible exact H) | (have H2_ := (Option.bind_some _ _).symm.trans H; rw [hy163]; with_reducible exact H2_) | (have H2_ := (Option.bind_some _ _).symm.trans H; with_reducible exact H2_) | with_reducible exact H | (rw [hy163]; exact H) | exact H
    have Ny163 := yJ hy163;clear hy163
    obtain ⟨y166, hy166⟩ : ∃ y_ : List ByteArray, y_ = (([(⟨#[120]⟩ : ByteArray), (⟨#[121]⟩ : ByteArray), (⟨#[78]⟩ : ByteArray), (⟨#[102]⟩ : ByteArray), (⟨#[95]⟩ : ByteArray), (⟨#[]⟩ : ByteArray)] : List ByteArray)) := ⟨_, rfl⟩
    replace H : ((fm_Tape_Next.f s0_0 t161 (y166.length : Int)).bind fun bt169 => (if 0 ≤ bt169.1 then (if bt169.1 < (y163.length : Int) then ((fm_Type.f kj4 s0_0 bt169.2 (wrap64 (a1 - 1)) (wrap64 (a2 + 1)) a3).bind fun bt172 => (some (2, rdOf ByteArray.empty y163 bt169.1, 0, (([(⟨t155, t156, t157, t158⟩ : S25), (⟨bt172.1, bt172.2.1, bt172.2.2.1, bt172.2.2.2.1⟩ : S25)] : List (S25))), bt172.2.2.2.2))) else (none)) else (none))) = some (r1, r2, r3, r4, r5) := by first | (rw [hy166]; with_reducible exact H) | (have H2_ := (Option.bind_some _ _).symm.trans H; rw [hy166]; with_reducible exact H2_) | (have H2_ := (Option.bind_some _ _).symm.trans H; with_reducible exact H2_) | with_reducible exact H | (rw [hy166]; exact H) | exact H
    have Ny166 := yJ hy166;clear hy166;replace H := yK H
    obtain ⟨⟨t169, t170⟩, A120, H⟩ := H
    replace H : (if 0 ≤ t169 then (if t169 < (y163.length : Int) then ((fm_Type.f kj4 s0_0 t170 (wrap64 (a1 - 1)) (wrap64 (a2 + 1)) a3).bind fun bt172 => (some (2, rdOf ByteArray.empty y163 t169, 0, (([(⟨t155, t156, t157, t158⟩ : S25), (⟨bt172.1, bt172.2.1, bt172.2.2.1, bt172.2.2.2.1⟩ : S25)] : List (S25))), bt172.2.2.2.2))) else (none)) else (none)) = some (r1, r2, r3, r4, r5) := H
    have A12 := yJ A120;clear A120
    by_cases c13 : 0 ≤ t169
    ·rw [if_pos c13] at H
     have c13b0 : decide (0 ≤ t169) = true := decide_eq_true c13
     clear c13
     by_cases c14 : t169 < (y163.length : Int)
     ·rw [if_pos c14] at H
      have c14b0 : decide (t169 < (y163.length : Int)) = true := decide_eq_true c14
      clear c14;replace H := yK H
      obtain ⟨⟨t172, t173, t174, t175, t178⟩, A150, H⟩ := H
      replace H : (some (2, rdOf ByteArray.empty y163 t169, 0, (([(⟨t155, t156, t157, t158⟩ : S25), (⟨t172, t173, t174, t175⟩ : S25)] : List (S25))), t178)) = some (r1, r2, r3, r4, r5) := H
      have A15 := yJ A150;clear A150
      obtain ⟨y179, hy179⟩ : ∃ y_ : List (S25), y_ = (([(⟨t155, t156, t157, t158⟩ : S25), (⟨t172, t173, t174, t175⟩ : S25)] : List (S25))) := ⟨_, rfl⟩
      replace H : (some (2, rdOf ByteArray.empty y163 t169, 0, y179, t178)) = some (r1, r2, r3, r4, r5) := by first | (rw [hy179]; with_reducible exact H) | (have H2_ := (Option.bind_some _ _).symm.trans H; rw [hy179]; with_reducible exact H2_) | (have H2_ := (Option.bind_some _ _).symm.trans H; with_reducible exact H2_) | with_reducible exact H | (rw [hy179]; exact H) | exact H
      have Ny179 := yJ hy179;clear hy179
      simp only [Option.some.injEq, Prod.mk.injEq] at H
      obtain ⟨rfl, rfl, rfl, rfl, rfl⟩ := H
      try go_wp2_with (first | ((with_reducible refine gate_callee (f := 109) rfl ?_); refine goesL_ (some 24) rfl rfl Tryd.func109 (by kernel_rfl) rfl #[.pointer (some ⟨g, 0, none⟩), .int .i64 (wrap64 (a1 - 1)), .int .i64 a2, .int .i64 a3] rfl (by (try simp only [List.map_toArray, List.map_cons, List.map_nil]); first | done | rfl | (simp only [List.length_drop, List.length_take]; rfl)) ?_; (with_reducible refine (ih kj4 (by have := HJ4.out; omega) g s0_0 x1001_4 (wrap64 (a1 - 1)) a2 a3 t155 t156 t157 t158 t161 w0 _ ?side1 ?side2 A11.out HNL.out).mono ?_); (case side1 => repeat (first | (with_reducible first | exact HI0.out | apply IsS46.alloc | apply IsS46.drewN | apply IsS46.drew | apply IsS46.set_1 | refine IsS46.far ?_ NB0_152.out _) | exact HI0.out)); (case side2 => repeat (first | (with_reducible first | exact HB.out | apply yF | apply yG | apply yH | refine yI ?_ (IsS46.ge HI0.out) | refine yI ?_ GE152.out) | exact HB.out)); rintro e w16 ⟨v159, rfl, ho0, hi, hb, hk⟩; refine ⟨_, rfl, ?_⟩; have n0_ := yJ (KeepBut.blk hk (g' := gb152) (o := .cells #[.int .i64 0, .string (⟨#[]⟩ : ByteArray), .int .i64 0, .slice none 0 0] 25 (0, 0)) (pk BK152.out) NB152_0.out (by simp)); have n1_ := yJ (Kd.N_lower (Kd.N_mono (ok' := fun k_ => (w.heap.size ≤ k_) ∧ k_ ≠ gb152 ∧ k_ ≠ g) ho0 (fun k_ hk_ => ⟨(Nat.le_trans (keep_size (w := w) (g := g) (row := none) (by repeat (first | (with_reducible first | exact HK.out | apply KeepBut.set_ | apply keep_drewN | apply keep_drew | apply keep_alloc | refine keep_far ?_ GW152.out _) | exact HK.out))) hk_), (Kd.freshB (g := gb152) (o := .cells #[.int .i64 0, .string (⟨#[]⟩ : ByteArray), .int .i64 0, .slice none 0 0] 25 (0, 0)) (pk BK152.out) k_ hk_), (IsS46.fresh (by repeat (first | (with_reducible first | exact HI0.out | apply IsS46.alloc | apply IsS46.drewN | apply IsS46.drew | apply IsS46.set_1 | refine IsS46.far ?_ NB0_152.out _) | exact HI0.out)) k_ hk_)⟩)) (keep_size (w := w) (g := g) (row := none) (by repeat (first | (with_reducible first | exact HK.out | apply KeepBut.set_ | apply keep_drewN | apply keep_drew | apply keep_alloc | refine keep_far ?_ GW152.out _) | exact HK.out)))); have n2_ := yJ (KeepBut.trans (by repeat (first | (with_reducible first | exact HK.out | apply KeepBut.set_ | apply keep_drewN | apply keep_drew | apply keep_alloc | refine keep_far ?_ GW152.out _) | exact HK.out)) hk (.inl rfl)); have n3_ := yJ (hb); have n4_ := yJ (hi); clear BK152; clear HK; clear HB; clear HI0; have BK152 := n0_; have HO160 := n1_; have HK := n2_; have HB := n3_; have HI0 := n4_; clear n0_ n1_ n2_ n3_ n4_; (try clear hb); (try clear hb2); (try clear hk); (try clear hi); (try clear ho0)) | ((with_reducible refine gate_dst (N := 9) rfl ?_); refine box_event ?hg (N := 9) ?hd (cs := #[.int .i64 0, .string (⟨#[]⟩ : ByteArray), .int .i64 0, .slice none 0 0]) (t := 25) ?hr ?_; (case hd => rfl); (case hg => rfl); (case hr => first | (go_simp; done) | (go_simp; rfl)); intro gb162 hg w17 hbox hb; have n0_ := yJ (Kd.N_below (Kd.N_elderB (by (with_reducible repeat (first | apply Kd.N_alloc | apply Kd.N_drewN | apply Kd.N_drew)); exact HO160.out) gb162 (Nat.le_of_eq hg.symm)) hb); have n1_ := yJ (blk_below (g := gb152) (o := .cells #[.int .i64 0, .string (⟨#[]⟩ : ByteArray), .int .i64 0, .slice none 0 0] 25 (0, 0)) (pk BK152.out) hb); have n2_ := yJ (IsS46.below (by repeat (first | (with_reducible first | exact HI0.out | apply IsS46.alloc | apply IsS46.drewN | apply IsS46.drew | apply IsS46.set_1 | refine IsS46.far ?_ NB0_152.out _) | exact HI0.out)) hb); have n3_ := yJ (KeepBut.trans (by repeat (first | (with_reducible first | exact HK.out | apply KeepBut.set_ | apply keep_drewN | apply keep_drew | apply keep_alloc | refine keep_far ?_ GW152.out _) | exact HK.out)) (KeepBut.of_below hb g none) (.inl rfl)); have n4_ := yJ (below_step (by repeat (first | (with_reducible first | exact HB.out | apply yF | apply yG | apply yH | refine yI ?_ (IsS46.ge HI0.out) | refine yI ?_ GE152.out) | exact HB.out)) hb); have n5_ := yJ (hbox); have n6_ := yJ ((by rw [hg]; exact (keep_size (w := w) (g := g) (row := none) (by repeat (first | (with_reducible first | exact HK.out | apply KeepBut.set_ | apply keep_drewN | apply keep_drew | apply keep_alloc | refine keep_far ?_ GW152.out _) | exact HK.out))) : w.heap.size ≤ gb162)); have n7_ := yJ ((Nat.le_trans HW0.out (by rw [hg]; exact (keep_size (w := w) (g := g) (row := none) (by repeat (first | (with_reducible first | exact HK.out | apply KeepBut.set_ | apply keep_drewN | apply keep_drew | apply keep_alloc | refine keep_far ?_ GW152.out _) | exact HK.out))) : w.heap.size ≤ gb162) : w0.heap.size ≤ gb162)); have n8_ := yJ ((by rw [hg]; exact Nat.ne_of_lt (blk_lt (g := gb152) (o := .cells #[.int .i64 0, .string (⟨#[]⟩ : ByteArray), .int .i64 0, .slice none 0 0] 25 (0, 0)) (pk BK152.out)) : gb152 ≠ gb162)); have n9_ := yJ ((by rw [hg]; exact Nat.ne_of_gt (blk_lt (g := gb152) (o := .cells #[.int .i64 0, .string (⟨#[]⟩ : ByteArray), .int .i64 0, .slice none 0 0] 25 (0, 0)) (pk BK152.out)) : gb162 ≠ gb152)); have n10_ := yJ ((by rw [hg]; exact Nat.ne_of_lt (IsS46.lt (show IsS46 w0 _ g s0_0 t161 from by repeat (first | (with_reducible first | exact HI0.out | apply IsS46.alloc | apply IsS46.drewN | apply IsS46.drew | apply IsS46.set_1 | refine IsS46.far ?_ NB0_152.out _) | exact HI0.out))) : g ≠ gb162)); have n11_ := yJ ((by rw [hg]; exact Nat.ne_of_gt (IsS46.lt (show IsS46 w0 _ g s0_0 t161 from by repeat (first | (with_reducible first | exact HI0.out | apply IsS46.alloc | apply IsS46.drewN | apply IsS46.drew | apply IsS46.set_1 | refine IsS46.far ?_ NB0_152.out _) | exact HI0.out))) : gb162 ≠ g)); clear HO160; clear BK152; clear HI0; clear HK; clear HB; have HO160 := n0_; have BK152 := n1_; have HI0 := n2_; have HK := n3_; have HB := n4_; have BK162 := n5_; have GW162 := n6_; have GE162 := n7_; have NB152_162 := n8_; have NB162_152 := n9_; have NB0_162 := n10_; have NB162_0 := n11_; clear n0_ n1_ n2_ n3_ n4_ n5_ n6_ n7_ n8_ n9_ n10_ n11_; clear hb hbox hg; have hnb18 := NB162_152.out; have hnc18 := NB152_162.out; have hnb19 := NB162_0.out; have hnc19 := NB0_162.out; have hcz20_0 : w17.cell? ⟨gb162, 0, none⟩ = some (.int .i64 0) := (yE BK162.out 0).trans rfl; have hcz20_1 : w17.cell? ⟨gb162, 1, none⟩ = some (.string (⟨#[]⟩ : ByteArray)) := (yE BK162.out 1).trans rfl; have hcz20_2 : w17.cell? ⟨gb162, 2, none⟩ = some (.int .i64 0) := (yE BK162.out 2).trans rfl; have hcz20_3 : w17.cell? ⟨gb162, 3, none⟩ = some (.slice none 0 0) := (yE BK162.out 3).trans rfl; have hfz20_0 := yD BK162.out 0; have hfz20_1 := yD BK162.out 1; have hfz20_2 := yD BK162.out 2; have hfz20_3 := yD BK162.out 3; obtain ⟨Ao21, co21, eo21⟩ := Kd.N_slice HO160.out; subst eo21))
      have pi171 : (0 ≤ (t169 : Int)) = True := eq_true (of_decide_eq_true (by first | (with_reducible assumption) | assumption))
      have qi171 : (t169 < (y163.length : Int)) = True := eq_true (of_decide_eq_true (by first | (with_reducible assumption) | assumption))
      have n0_ : Aside0 (Kd.N k25 25 ((((w17.setCell ⟨gb162, 0, none⟩ (.int .i64 t155)).setCell ⟨gb162, 1, none⟩ (.string t156)).setCell ⟨gb162, 2, none⟩ (.int .i64 t157)).setCell ⟨gb162, 3, none⟩ (.slice Ao21 t158.length co21)) w.heap.size (fun k_ => (w.heap.size ≤ k_) ∧ k_ ≠ gb152 ∧ k_ ≠ g ∧ k_ ≠ gb162) (.slice Ao21 t158.length co21) t158) := ⟨by (with_reducible repeat (first | apply Kd.N_alloc | apply Kd.N_drewN | apply Kd.N_drew)); exact Kd.N_mono (Kd.N_far (p := ⟨gb162, 3, none⟩) (Kd.N_far (p := ⟨gb162, 2, none⟩) (Kd.N_far (p := ⟨gb162, 1, none⟩) (Kd.N_far (p := ⟨gb162, 0, none⟩) (Kd.N_mono HO160.out (fun k_ hk => (⟨hk, hk.2⟩ : _ ∧ k_ ≠ gb162))) (fun _ hk => hk.2) (.int .i64 t155)) (fun _ hk => hk.2) (.string t156)) (fun _ hk => hk.2) (.int .i64 t157)) (fun _ hk => hk.2) (.slice Ao21 t158.length co21)) (fun _ hk => ⟨hk.1.1.1, ⟨hk.1.1.2.1, ⟨hk.1.1.2.2, hk.1.2⟩⟩⟩)⟩
      have n1_ : Aside0 (((((w17.setCell ⟨gb162, 0, none⟩ (.int .i64 t155)).setCell ⟨gb162, 1, none⟩ (.string t156)).setCell ⟨gb162, 2, none⟩ (.int .i64 t157)).setCell ⟨gb162, 3, none⟩ (.slice Ao21 t158.length co21)).heap[gb152]? = some (.cells #[.int .i64 0, .string (⟨#[]⟩ : ByteArray), .int .i64 0, .slice none 0 0] 25 (0, 0))) := ⟨pk BK152.out⟩
      have n2_ : Aside0 (((((w17.setCell ⟨gb162, 0, none⟩ (.int .i64 t155)).setCell ⟨gb162, 1, none⟩ (.string t156)).setCell ⟨gb162, 2, none⟩ (.int .i64 t157)).setCell ⟨gb162, 3, none⟩ (.slice Ao21 t158.length co21)).heap[gb162]? = some (.cells #[.int .i64 t155, .string t156, .int .i64 t157, .slice Ao21 t158.length co21] 25 (0, 0))) := ⟨by (with_reducible repeat (first | refine yA ?_ _ | refine yB ?_ | refine yC ?_ _)); refine blk_put (cs := #[.int .i64 t155, .string t156, .int .i64 t157, .slice none 0 0]) ?_ 3 _ rfl; (with_reducible repeat (first | refine yA ?_ _ | refine yB ?_ | refine yC ?_ _)); refine blk_put (cs := #[.int .i64 t155, .string t156, .int .i64 0, .slice none 0 0]) ?_ 2 _ rfl; (with_reducible repeat (first | refine yA ?_ _ | refine yB ?_ | refine yC ?_ _)); refine blk_put (cs := #[.int .i64 t155, .string (⟨#[]⟩ : ByteArray), .int .i64 0, .slice none 0 0]) ?_ 1 _ rfl; (with_reducible repeat (first | refine yA ?_ _ | refine yB ?_ | refine yC ?_ _)); refine blk_put (cs := #[.int .i64 0, .string (⟨#[]⟩ : ByteArray), .int .i64 0, .slice none 0 0]) ?_ 0 _ rfl; (with_reducible repeat (first | refine yA ?_ _ | refine yB ?_ | refine yC ?_ _)); exact BK162.out⟩
      have n3_ : Aside0 (IsS46 w0 ((((w17.setCell ⟨gb162, 0, none⟩ (.int .i64 t155)).setCell ⟨gb162, 1, none⟩ (.string t156)).setCell ⟨gb162, 2, none⟩ (.int .i64 t157)).setCell ⟨gb162, 3, none⟩ (.slice Ao21 t158.length co21)) g s0_0 t161) := ⟨by repeat (first | (with_reducible first | exact HI0.out | apply IsS46.alloc | apply IsS46.drewN | apply IsS46.drew | apply IsS46.set_1 | refine IsS46.far ?_ NB0_152.out _ | refine IsS46.far ?_ NB0_162.out _) | exact HI0.out)⟩
      have n4_ : Aside0 (KeepBut w ((((w17.setCell ⟨gb162, 0, none⟩ (.int .i64 t155)).setCell ⟨gb162, 1, none⟩ (.string t156)).setCell ⟨gb162, 2, none⟩ (.int .i64 t157)).setCell ⟨gb162, 3, none⟩ (.slice Ao21 t158.length co21)) g none) := ⟨by repeat (first | (with_reducible first | exact HK.out | apply KeepBut.set_ | apply keep_drewN | apply keep_drew | apply keep_alloc | refine keep_far ?_ GW152.out _ | refine keep_far ?_ GW162.out _) | exact HK.out)⟩
      have n5_ : Aside0 (Below w0.heap.size w0 ((((w17.setCell ⟨gb162, 0, none⟩ (.int .i64 t155)).setCell ⟨gb162, 1, none⟩ (.string t156)).setCell ⟨gb162, 2, none⟩ (.int .i64 t157)).setCell ⟨gb162, 3, none⟩ (.slice Ao21 t158.length co21))) := ⟨by repeat (first | (with_reducible first | exact HB.out | apply yF | apply yG | apply yH | refine yI ?_ (IsS46.ge HI0.out) | refine yI ?_ GE152.out | refine yI ?_ GE162.out) | exact HB.out)⟩
      (try clear HO160);(try clear BK152);(try clear BK162);(try clear HI0);(try clear HK);(try clear HB)
      generalize ((((w17.setCell ⟨gb162, 0, none⟩ (.int .i64 t155)).setCell ⟨gb162, 1, none⟩ (.string t156)).setCell ⟨gb162, 2, none⟩ (.int .i64 t157)).setCell ⟨gb162, 3, none⟩ (.slice Ao21 t158.length co21)) = w22 at n0_ n1_ n2_ n3_ n4_ n5_ ⊢
      have HO160 := n0_;have BK152 := n1_;have BK162 := n2_;have HI0 := n3_;have HK := n4_;have HB := n5_;clear n0_ n1_ n2_ n3_ n4_ n5_
      have n0_ := yJ (Kd.N_drew HO160.out)
      have n1_ := yJ (yB BK152.out)
      have n2_ := yJ (yB BK162.out)
      have n3_ := yJ (IsS46.drew HI0.out)
      have n4_ := yJ (keep_drew HK.out)
      have n5_ := yJ (yH HB.out)
      clear HO160 BK152 BK162 HI0 HK HB;have HO160 := n0_;have BK152 := n1_;have BK162 := n2_;have HI0 := n3_;have HK := n4_;have HB := n5_;clear n0_ n1_ n2_ n3_ n4_ n5_
      refine start_ (n := 18) (S := fun w' => True) (ds := []) #[false, false, false, false, false, false, false, false, false, false, false, false, false, false, false, false, false, false] (by kernel_rfl) rfl rfl trivial (fun hHeld => ?_); refine with_tabW fm_Type.tab3 fm_Type.bits3 (fun HT_ HW_ => ?_)
      generalize w22.drew = w23 at HO160 BK152 BK162 HI0 HK HB hHeld ⊢
      refine pure_ (i := 1) (N := some 26) (v := ?_) (a' := ?_) #[false, true, false, false, false, false, false, false, false, false, false, false, false, false, false, false, false, false] rfl rfl (any_of HT_.out (by kernel_rfl)) (fun _ _ _ h => h) (Or.inl ⟨by rfl, ?_⟩) ?_ ?_
      rotate_left
      ·intro w'
       go_simp;with_reducible rfl
      rotate_left
      ·simp only [Act.put, List.setIfInBounds_toArray, List.set_cons_zero, List.set_cons_succ, i64_w, i32_w]
       rfl
      refine pure_ (i := 8) (N := some 33) (v := ?_) (a' := ?_) #[false, true, false, false, false, false, false, false, true, false, false, false, false, false, false, false, false, false] rfl rfl (any_of HT_.out (by kernel_rfl)) (fun _ _ _ h => h) (Or.inl ⟨by rfl, ?_⟩) ?_ ?_
      rotate_left
      ·intro w'
       go_simp;with_reducible rfl
      rotate_left
      ·simp only [Act.put, List.setIfInBounds_toArray, List.set_cons_zero, List.set_cons_succ, i64_w, i32_w]
       rfl
      refine pure_ (i := 9) (N := some 34) (v := ?_) (a' := ?_) #[false, true, false, false, false, false, false, false, true, true, false, false, false, false, false, false, false, false] rfl rfl (any_of HT_.out (by kernel_rfl)) (fun _ _ _ h => h) (Or.inl ⟨by rfl, ?_⟩) ?_ ?_
      rotate_left
      ·intro w'
       go_simp;with_reducible rfl
      rotate_left
      ·simp only [Act.put, List.setIfInBounds_toArray, List.set_cons_zero, List.set_cons_succ, i64_w, i32_w]
       rfl
      refine pure_ (i := 11) (N := some 36) (v := ?_) (a' := ?_) #[false, true, false, false, false, false, false, false, true, true, false, true, false, false, false, false, false, false] rfl rfl (any_of HT_.out (by kernel_rfl)) (fun _ _ _ h => h) (Or.inl ⟨by rfl, ?_⟩) ?_ ?_
      rotate_left
      ·intro w'
       go_simp;with_reducible rfl
      rotate_left
      ·simp only [Act.put, List.setIfInBounds_toArray, List.set_cons_zero, List.set_cons_succ, i64_w, i32_w]
       rfl
      refine pure_ (i := 13) (N := some 38) (v := ?_) (a' := ?_) #[false, true, false, false, false, false, false, false, true, true, false, true, false, true, false, false, false, false] rfl rfl (any_of HT_.out (by kernel_rfl)) (fun _ _ _ h => h) (Or.inl ⟨by rfl, ?_⟩) ?_ ?_
      rotate_left
      ·intro w'
       go_simp;with_reducible rfl
      rotate_left
      ·simp only [Act.put, List.setIfInBounds_toArray, List.set_cons_zero, List.set_cons_succ, i64_w, i32_w]
       rfl
      refine inv_at [0, 2, 3, 4, 5, 6, 7, 10, 12, 14, 15, 16, 17] (fun a0_ b a w' => ∃ (v164 : Value) (adz_v164 : Addr) (v167 : Value) (v176 : Value) (v180 : Value) (m5_ : Value) (m14_ : Value) (m16_ : Value), a = putSel a0_ b [(0, 25, v164), (2, 27, v167), (3, 28, .int .i64 (y166.length : Int)), (4, 29, .int .i64 t169), (5, 30, m5_), (6, 31, .string (rdOf ByteArray.empty y163 t169)), (7, 32, .agg #[.int .i64 t155, .string t156, .int .i64 t157, .slice Ao21 t158.length co21]), (10, 35, .int .i64 (wrap64 (a1 - 1))), (12, 37, .int .i64 (wrap64 (a2 + 1))), (14, 39, m14_), (15, 40, v180), (16, 41, m16_)] ∧ (b 15 = false → Kd.N k25 25 w' w.heap.size (fun k_ => (w.heap.size ≤ k_) ∧ k_ ≠ g ∧ k_ ≠ gb152 ∧ k_ ≠ gb162) (.slice Ao21 t158.length co21) t158) ∧ (b 17 = false → w'.heap[gb152]? = some (.cells #[.int .i64 0, .string (⟨#[]⟩ : ByteArray), .int .i64 0, .slice none 0 0] 25 (0, 0))) ∧ (w'.heap[gb162]? = some (.cells #[.int .i64 t155, .string t156, .int .i64 t157, .slice Ao21 t158.length co21] 25 (0, 0))) ∧ (b 4 = false → IsS46 w0 w' g s0_0 t161) ∧ (KeepBut w w' g none) ∧ (Below w0.heap.size w0 w') ∧ (b 0 = true → ((v164 : Value) = .slice (some NA) y163.length Nc ∧ Kd.R Kd.string 9 w' w.heap.size (fun k_ => (w.heap.size ≤ k_)) (.slice none 0 0) [])) ∧ (b 0 = true → ∃ c_, (v164 : Value) = .slice (some adz_v164) y163.length c_) ∧ (b 2 = true → ((v167 : Value) = .slice (some NA) y166.length Nc ∧ Kd.R Kd.string 9 w' w.heap.size (fun k_ => (w.heap.size ≤ k_)) (.slice none 0 0) [])) ∧ (b 4 = true → b 14 = false → IsS46 w0 w' g s0_0 t170) ∧ (b 14 = true → b 15 = false → Kd.N k25 25 w' w.heap.size (fun k_ => (w.heap.size ≤ k_) ∧ some k_ ≠ (.slice Ao21 t158.length co21 : Value).ownBlock ∧ k_ ≠ g ∧ k_ ≠ gb152 ∧ k_ ≠ gb162) v176 t175) ∧ (b 14 = true → IsS46 w0 w' g s0_0 t178) ∧ (b 15 = true → Kd.N k25 25 w' w.heap.size (fun k_ => (w.heap.size ≤ k_) ∧ k_ ≠ g ∧ k_ ≠ gb152 ∧ k_ ≠ gb162) v180 y179) ∧ (b 17 = true → w'.heap[gb152]? = some (.cells #[.int .i64 2, .string (rdOf ByteArray.empty y163 t169), .int .i64 0, v180] 25 (0, 0))) ∧ (b 5 = true → (m5_ : Value) = .pointer (some (adz_v164.add (t169).toNat))) ∧ (b 14 = true → (m14_ : Value) = .agg #[.int .i64 t172, .string t173, .int .i64 t174, v176]) ∧ (b 16 = true → (m16_ : Value) = .agg #[.int .i64 2, .string (rdOf ByteArray.empty y163 t169), .int .i64 0, v180])) HT_.out HW_.out (by kernel_rfl) (by kernel_rfl) ?_ ?_ ?_
      ·exact ⟨.bool false, ⟨0, 0, none⟩, .bool false, .bool false, .bool false, .bool false, .bool false, .bool false, by simp only [putSel, Bool.false_eq_true, if_false], fun _ => (by first | exact HO160.out | exact Kd.N_mono HO160.out (fun k_ h_ => by first | exact h_ | omega | grind)), fun _ => BK152.out, BK162.out, fun _ => HI0.out, HK.out, HB.out, fun h_ => absurd h_ (by decide), fun h_ => absurd h_ (by decide), fun h_ => absurd h_ (by decide), fun h_ => absurd h_ (by decide), fun h_ => absurd h_ (by decide), fun h_ => absurd h_ (by decide), fun h_ => absurd h_ (by decide), fun h_ => absurd h_ (by decide), fun h_ => absurd h_ (by decide), fun h_ => absurd h_ (by decide), fun h_ => absurd h_ (by decide)⟩
      ·skip
       clear BK152 BK162 HB HI0 HK HO160
       refine steps_cons ?_ ?_
       ·rintro b a w' ⟨v164, adz_v164, v167, v176, v180, m5_, m14_, m16_, ha, Q_HO160, Q_BK152, Q_BK162, Q_HI0, Q_HK, Q_HB, Q_HO165, Q_HA_HO165, Q_HO168, Q_HI0_e4, Q_HO177, Q_HI0_e14, Q_HO181, Q_BK152_e17, Q_X5_, Q_X14_, Q_X16_⟩ hb_ hon hoff
        refine ⟨_, rfl, fun K hK => ?_⟩
        replace ha := yJ ha
        have BK152 := yJ (Q_BK152 (hoff 17 (by kernel_rfl)))
        have BK162 := yJ Q_BK162;have HK := yJ Q_HK;have HB := yJ Q_HB
        have hNw := HN.out.below Q_HB
        have hNc : w'.cell? ⟨0, 0, none⟩ = some (.slice (some NA) y163.length Nc) := by rw [Ny163.out]; exact hNw.cell
        refine value_ (w1 := w') (v := .slice (some NA) y163.length Nc) (by rfl) rfl ?_ ?_
        ·go_simp
         try rfl
        refine hK.out _ _ ⟨.slice (some NA) y163.length Nc, NA, v167, v176, v180, m5_, m14_, m16_, (by rw [ha.out]; exact putSel_upk 0 hb_ rfl rfl rfl), Q_HO160, Q_BK152, Q_BK162, Q_HI0, Q_HK, Q_HB, fun _ => ⟨rfl, Kd.R_nil _ _ _ _ _⟩, fun _ => ⟨_, rfl⟩, Q_HO168, Q_HI0_e4, Q_HO177, Q_HI0_e14, Q_HO181, fun h0_ => absurd ((hoff 17 (by kernel_rfl)).symm.trans h0_) (by decide), fun h0_ => absurd ((hoff 5 (by kernel_rfl)).symm.trans h0_) (by decide), Q_X14_, fun h0_ => absurd ((hoff 16 (by kernel_rfl)).symm.trans h0_) (by decide)⟩
       refine steps_cons ?_ ?_
       ·rintro b a w' ⟨v164, adz_v164, v167, v176, v180, m5_, m14_, m16_, ha, Q_HO160, Q_BK152, Q_BK162, Q_HI0, Q_HK, Q_HB, Q_HO165, Q_HA_HO165, Q_HO168, Q_HI0_e4, Q_HO177, Q_HI0_e14, Q_HO181, Q_BK152_e17, Q_X5_, Q_X14_, Q_X16_⟩ hb_ hon hoff
        refine ⟨_, rfl, fun K hK => ?_⟩
        replace ha := yJ ha
        have HO160 := yJ (Q_HO160 (hoff 15 (by kernel_rfl)))
        have BK152 := yJ (Q_BK152 (hoff 17 (by kernel_rfl)))
        have BK162 := yJ Q_BK162
        have HI0 := yJ (Q_HI0 (hoff 4 (by kernel_rfl)))
        have HK := yJ Q_HK;have HB := yJ Q_HB
        have hNw := HN.out.below Q_HB
        have hNc : w'.cell? ⟨0, 0, none⟩ = some (.slice (some NA) y166.length Nc) := by rw [Ny166.out]; exact hNw.cell
        refine value_ (w1 := w') (v := .slice (some NA) y166.length Nc) (by rfl) rfl ?_ ?_
        ·go_simp
         try rfl
        refine hK.out _ _ ⟨v164, adz_v164, .slice (some NA) y166.length Nc, v176, v180, m5_, m14_, m16_, (by rw [ha.out]; exact putSel_upk 1 hb_ rfl rfl rfl), Q_HO160, Q_BK152, Q_BK162, Q_HI0, Q_HK, Q_HB, Q_HO165, Q_HA_HO165, fun _ => ⟨rfl, Kd.R_nil _ _ _ _ _⟩, Q_HI0_e4, Q_HO177, fun h0_ => absurd ((hoff 14 (by kernel_rfl)).symm.trans h0_) (by decide), fun h0_ => absurd ((hoff 15 (by kernel_rfl)).symm.trans h0_) (by decide), fun h0_ => absurd ((hoff 17 (by kernel_rfl)).symm.trans h0_) (by decide), fun h0_ => absurd ((hoff 5 (by kernel_rfl)).symm.trans h0_) (by decide), fun h0_ => absurd ((hoff 14 (by kernel_rfl)).symm.trans h0_) (by decide), fun h0_ => absurd ((hoff 16 (by kernel_rfl)).symm.trans h0_) (by decide)⟩
       refine steps_cons ?_ ?_
       ·rintro b a w' ⟨v164, adz_v164, v167, v176, v180, m5_, m14_, m16_, ha, Q_HO160, Q_BK152, Q_BK162, Q_HI0, Q_HK, Q_HB, Q_HO165, Q_HA_HO165, Q_HO168, Q_HI0_e4, Q_HO177, Q_HI0_e14, Q_HO181, Q_BK152_e17, Q_X5_, Q_X14_, Q_X16_⟩ hb_ hon hoff
        refine ⟨_, rfl, fun K hK => ?_⟩
        have e27 : a.tmps[27]? = some (v167) := by rw [ha]; exact putSel_on (e := (2, 27, v167)) 1 rfl rfl (hon 2 (by kernel_rfl)) rfl
        replace ha := yJ ha
        have HO160 := yJ (Q_HO160 (hoff 15 (by kernel_rfl)))
        have BK152 := yJ (Q_BK152 (hoff 17 (by kernel_rfl)))
        have BK162 := yJ Q_BK162
        have HI0 := yJ (Q_HI0 (hoff 4 (by kernel_rfl)))
        have HK := yJ Q_HK;have HB := yJ Q_HB
        have HO168 := yJ (Q_HO168 (hon 2 (by kernel_rfl)))
        obtain ⟨Ao3_0, co3_0, eo_⟩ := RN_slice HO168.out.1
        subst eo_
        refine value_ (w1 := w') (v := .int .i64 (y166.length : Int)) (by rfl) rfl ?_ ?_
        ·go_simp
         (try simp only [i64_w])
         try rfl
        refine hK.out _ _ ⟨v164, adz_v164, .slice Ao3_0 y166.length co3_0, v176, v180, m5_, m14_, m16_, (by rw [ha.out]; exact putSel_upk 2 hb_ rfl rfl rfl), Q_HO160, Q_BK152, Q_BK162, Q_HI0, Q_HK, Q_HB, Q_HO165, Q_HA_HO165, Q_HO168, fun h0_ _ => absurd ((hoff 4 (by kernel_rfl)).symm.trans h0_) (by decide), fun h0_ _ => absurd ((hoff 14 (by kernel_rfl)).symm.trans h0_) (by decide), fun h0_ => absurd ((hoff 14 (by kernel_rfl)).symm.trans h0_) (by decide), fun h0_ => absurd ((hoff 15 (by kernel_rfl)).symm.trans h0_) (by decide), fun h0_ => absurd ((hoff 17 (by kernel_rfl)).symm.trans h0_) (by decide), fun h0_ => absurd ((hoff 5 (by kernel_rfl)).symm.trans h0_) (by decide), fun h0_ => absurd ((hoff 14 (by kernel_rfl)).symm.trans h0_) (by decide), fun h0_ => absurd ((hoff 16 (by kernel_rfl)).symm.trans h0_) (by decide)⟩
       refine steps_cons ?_ ?_
       ·rintro b a w' ⟨v164, adz_v164, v167, v176, v180, m5_, m14_, m16_, ha, Q_HO160, Q_BK152, Q_BK162, Q_HI0, Q_HK, Q_HB, Q_HO165, Q_HA_HO165, Q_HO168, Q_HI0_e4, Q_HO177, Q_HI0_e14, Q_HO181, Q_BK152_e17, Q_X5_, Q_X14_, Q_X16_⟩ hb_ hon hoff
        refine ⟨_, rfl, fun K hK => ?_⟩
        have e26 : a.tmps[26]? = some (.pointer (some ⟨g, 0, none⟩)) := by rw [ha]; exact (putSel_off rfl).trans rfl
        have e28 : a.tmps[28]? = some (.int .i64 (y166.length : Int)) := by rw [ha]; exact putSel_on (e := (3, 28, .int .i64 (y166.length : Int))) 2 rfl rfl (hon 3 (by kernel_rfl)) rfl
        replace ha := yJ ha
        have HO160 := yJ (Q_HO160 (hoff 15 (by kernel_rfl)))
        have BK152 := yJ (Q_BK152 (hoff 17 (by kernel_rfl)))
        have BK162 := yJ Q_BK162
        have HI0 := yJ (Q_HI0 hb_)
        have HK := yJ Q_HK;have HB := yJ Q_HB
        have HO168 := yJ (Q_HO168 (hon 2 (by kernel_rfl)))
        obtain ⟨Ao28, co28, eo28⟩ := RN_slice HO168.out.1
        (first | subst eo28 | (injection eo28 with f1_ f2_ f3_; have f4_ := f1_.symm; have f5_ := f3_.symm; clear f1_ f2_ f3_; subst f4_; subst f5_))
        refine goes_ Tryd.func90 (by kernel_rfl) rfl #[.pointer (some ⟨g, 0, none⟩), .int .i64 (y166.length : Int)] (by rfl) rfl rfl (by first | (simp only [List.map_toArray, List.map_cons, List.map_nil, Act.eval, Array.getD_eq_getD_getElem?, Option.getD_some, e26, e28]; done) | (simp only [List.map_toArray, List.map_cons, List.map_nil, Act.eval, Array.getD_eq_getD_getElem?, Option.getD_some, e26, e28]; rfl)) ?_
        with_reducible refine (fm_Tape_Next.calls g s0_0 t161 (y166.length : Int) t169 t170 w0 _ ?side1 ?side2 A12.out).mono ?_
        (case side1 => repeat (first | (with_reducible first | exact HI0.out | apply IsS46.alloc | apply IsS46.drewN | apply IsS46.drew | apply IsS46.set_1 | refine IsS46.far ?_ NB0_152.out _ | refine IsS46.far ?_ NB0_162.out _) | exact HI0.out))
        (case side2 => repeat (first | (with_reducible first | exact HB.out | apply yF | apply yG | apply yH | refine yI ?_ (IsS46.ge HI0.out) | refine yI ?_ GE152.out | refine yI ?_ GE162.out) | exact HB.out))
        rintro e w29 ⟨rfl, hi, hb, hk⟩
        refine ⟨_, rfl, ?_⟩
        have n0_ := yJ (KeepBut.blk hk (g' := gb152) (o := .cells #[.int .i64 0, .string (⟨#[]⟩ : ByteArray), .int .i64 0, .slice none 0 0] 25 (0, 0)) (pk BK152.out) NB152_0.out (by simp))
        have n1_ := yJ (Kd.N_mono (Kd.N_keep (Kd.N_mono (ok := fun k_ => (((w.heap.size ≤ k_)) ∧ (some k_ ≠ (.slice none 0 0 : Value).ownBlock ∧ (k_ ≠ g ∧ (k_ ≠ gb152 ∧ k_ ≠ gb162))))) (by (with_reducible repeat (first | apply Kd.N_alloc | apply Kd.N_drewN | apply Kd.N_drew)); first | exact HO160.out | exact Kd.N_mono HO160.out (fun k_ hk => by have h_ := hk; (try simp only [Value.ownBlock, ne_eq, reduceCtorEq, not_false_eq_true, true_and] at h_ ⊢); (first | done | exact h_ | omega | grind))) (fun k_ hk_ => (⟨hk_, by have h_ := hk_; (try simp only [Value.ownBlock, ne_eq, reduceCtorEq, not_false_eq_true, true_and] at h_ ⊢); (first | done | exact h_ | omega | grind)⟩ : _ ∧ k_ ≠ g))) hk (fun _ h => h.2)) (fun _ h => h.1))
        have n2_ := yJ (KeepBut.blk hk (g' := gb162) (o := .cells #[.int .i64 t155, .string t156, .int .i64 t157, .slice Ao21 t158.length co21] 25 (0, 0)) (pk BK162.out) NB162_0.out (by simp))
        have n3_ := yJ (And.intro HO168.out.1 (Kd.R_mono (Kd.R_keep (IsS46.apart (show IsS46 w0 _ g s0_0 t161 from by repeat (first | (with_reducible first | exact HI0.out | apply IsS46.alloc | apply IsS46.drewN | apply IsS46.drew | apply IsS46.set_1 | refine IsS46.far ?_ NB0_152.out _ | refine IsS46.far ?_ NB0_162.out _) | exact HI0.out)) (by (with_reducible repeat (first | apply Kd.R_alloc | apply Kd.R_drewN | apply Kd.R_drew)); exact HO168.out.2) (by decide)) hk (fun _ h => h.2)) (fun _ h => h.1)))
        have n4_ := yJ (KeepBut.trans (by repeat (first | (with_reducible first | exact HK.out | apply KeepBut.set_ | apply keep_drewN | apply keep_drew | apply keep_alloc | refine keep_far ?_ GW152.out _ | refine keep_far ?_ GW162.out _) | exact HK.out)) hk (.inl rfl))
        have n5_ := yJ (hb)
        have n6_ := yJ (hi)
        have z_HO165 := fun (h0_ : b 0 = true) => (show ((v164 : Value) = .slice (some NA) y163.length Nc ∧ Kd.R Kd.string 9 w29 w.heap.size (fun k_ => (w.heap.size ≤ k_)) (.slice none 0 0) []) from ⟨(Q_HO165 h0_).1, Kd.R_nil _ _ _ _ _⟩)
        clear BK152 HO160 BK162 HO168 HK HB HI0;have BK152 := n0_;have HO160 := n1_;have BK162 := n2_;have HO168 := n3_;have HK := n4_;have HB := n5_;have HI0 := n6_;clear n0_ n1_ n2_ n3_ n4_ n5_ n6_;(try clear hb);(try clear hb2);(try clear hk);(try clear hi)
        refine hK.out _ _ ⟨v164, adz_v164, .slice Ao28 y166.length co28, v176, v180, m5_, m14_, m16_, (by rw [ha.out]; exact putSel_upk 3 hb_ rfl rfl rfl), fun _ => (by (with_reducible repeat (first | apply Kd.N_alloc | apply Kd.N_drewN | apply Kd.N_drew)); first | exact HO160.out | exact Kd.N_mono HO160.out (fun k_ hk => by have h_ := hk; (try simp only [Value.ownBlock, ne_eq, reduceCtorEq, not_false_eq_true, true_and] at h_ ⊢); (first | done | exact h_ | omega | grind))), fun _ => (pk BK152.out), (pk BK162.out), fun h0_ => absurd ((up_self b 4).symm.trans h0_) (by decide), (by repeat (first | (with_reducible first | exact HK.out | apply KeepBut.set_ | apply keep_drewN | apply keep_drew | apply keep_alloc | refine keep_far ?_ GW152.out _ | refine keep_far ?_ GW162.out _) | exact HK.out)), (by repeat (first | (with_reducible first | exact HB.out | apply yF | apply yG | apply yH | refine yI ?_ (IsS46.ge HI0.out) | refine yI ?_ GE152.out | refine yI ?_ GE162.out) | exact HB.out)), z_HO165, Q_HA_HO165, fun _ => ⟨HO168.out.1, Kd.R_nil _ _ _ _ _⟩, fun _ _ => (by repeat (first | (with_reducible first | exact HI0.out | apply IsS46.alloc | apply IsS46.drewN | apply IsS46.drew | apply IsS46.set_1 | refine IsS46.far ?_ NB0_152.out _ | refine IsS46.far ?_ NB0_162.out _) | exact HI0.out)), fun h0_ _ => absurd ((hoff 14 (by kernel_rfl)).symm.trans h0_) (by decide), fun h0_ => absurd ((hoff 14 (by kernel_rfl)).symm.trans h0_) (by decide), fun h0_ => absurd ((hoff 15 (by kernel_rfl)).symm.trans h0_) (by decide), fun h0_ => absurd ((hoff 17 (by kernel_rfl)).symm.trans h0_) (by decide), fun h0_ => absurd ((hoff 5 (by kernel_rfl)).symm.trans h0_) (by decide), fun h0_ => absurd ((hoff 14 (by kernel_rfl)).symm.trans h0_) (by decide), fun h0_ => absurd ((hoff 16 (by kernel_rfl)).symm.trans h0_) (by decide)⟩
       refine steps_cons ?_ ?_
       ·rintro b a w' ⟨v164, adz_v164, v167, v176, v180, m5_, m14_, m16_, ha, Q_HO160, Q_BK152, Q_BK162, Q_HI0, Q_HK, Q_HB, Q_HO165, Q_HA_HO165, Q_HO168, Q_HI0_e4, Q_HO177, Q_HI0_e14, Q_HO181, Q_BK152_e17, Q_X5_, Q_X14_, Q_X16_⟩ hb_ hon hoff
        refine ⟨_, rfl, fun K hK => ?_⟩
        have e25 : a.tmps[25]? = some (v164) := by rw [ha]; exact putSel_on (e := (0, 25, v164)) 0 rfl rfl (hon 0 (by kernel_rfl)) rfl
        have e29 : a.tmps[29]? = some (.int .i64 t169) := by rw [ha]; exact putSel_on (e := (4, 29, .int .i64 t169)) 3 rfl rfl (hon 4 (by kernel_rfl)) rfl
        replace ha := yJ ha
        have BK152 := yJ (Q_BK152 (hoff 17 (by kernel_rfl)))
        have BK162 := yJ Q_BK162;have HK := yJ Q_HK;have HB := yJ Q_HB
        have HO165 := yJ (Q_HO165 (hon 0 (by kernel_rfl)))
        have HA_HO165 := yJ (Q_HA_HO165 (hon 0 (by kernel_rfl)))
        have HO168 := yJ (Q_HO168 (hon 2 (by kernel_rfl)))
        obtain ⟨c_, hv_⟩ := HA_HO165.out
        rw [hv_] at e25
        refine value_ (w1 := w') (v := .pointer (some (adz_v164.add (t169).toNat))) (by rfl) rfl ?_ ?_
        ·go_simp
         (try simp only [i64_w])
         try rfl
        refine hK.out _ _ ⟨v164, adz_v164, v167, v176, v180, (.pointer (some (adz_v164.add (t169).toNat))), m14_, m16_, (by rw [ha.out]; exact putSel_upk 4 hb_ rfl rfl rfl), Q_HO160, Q_BK152, Q_BK162, fun h0_ => absurd ((hon 4 (by kernel_rfl)).symm.trans h0_) (by decide), Q_HK, Q_HB, Q_HO165, Q_HA_HO165, Q_HO168, Q_HI0_e4, Q_HO177, Q_HI0_e14, Q_HO181, fun h0_ => absurd ((hoff 17 (by kernel_rfl)).symm.trans h0_) (by decide), fun _ => rfl, Q_X14_, fun h0_ => absurd ((hoff 16 (by kernel_rfl)).symm.trans h0_) (by decide)⟩
       refine steps_cons ?_ ?_
       ·rintro b a w' ⟨v164, adz_v164, v167, v176, v180, m5_, m14_, m16_, ha, Q_HO160, Q_BK152, Q_BK162, Q_HI0, Q_HK, Q_HB, Q_HO165, Q_HA_HO165, Q_HO168, Q_HI0_e4, Q_HO177, Q_HI0_e14, Q_HO181, Q_BK152_e17, Q_X5_, Q_X14_, Q_X16_⟩ hb_ hon hoff
        refine ⟨_, rfl, fun K hK => ?_⟩
        have e30 : a.tmps[30]? = some (m5_) := by rw [ha]; exact putSel_on (e := (5, 30, m5_)) 4 rfl rfl (hon 5 (by kernel_rfl)) rfl
        rw [Q_X5_ (hon 5 (by kernel_rfl))] at e30
        replace ha := yJ ha
        have BK152 := yJ (Q_BK152 (hoff 17 (by kernel_rfl)))
        have BK162 := yJ Q_BK162;have HK := yJ Q_HK;have HB := yJ Q_HB
        have HO165 := yJ (Q_HO165 (hon 0 (by kernel_rfl)))
        have HA_HO165 := yJ (Q_HA_HO165 (hon 0 (by kernel_rfl)))
        have HO168 := yJ (Q_HO168 (hon 2 (by kernel_rfl)))
        obtain ⟨c_, hv_⟩ := HA_HO165.out
        have hF_ := HO165.out.1
        rw [hv_] at hF_
        obtain ⟨ad_, ea_, hx_⟩ := Kd.at_string (names_reads (HN.out.below Q_HB) Ny163.out hF_) t169 (of_eq_true pi171) (of_eq_true qi171)
        cases ea_
        refine value_ (w1 := w') (v := .string (rdOf ByteArray.empty y163 t169)) (by rfl) rfl ?_ ?_
        ·go_simp
         (try simp only [i64_w])
         try rfl
        refine hK.out _ _ ⟨v164, adz_v164, v167, v176, v180, m5_, m14_, m16_, (by rw [ha.out]; exact putSel_upk 5 hb_ rfl rfl rfl), Q_HO160, Q_BK152, Q_BK162, fun h0_ => absurd ((hon 4 (by kernel_rfl)).symm.trans h0_) (by decide), Q_HK, Q_HB, Q_HO165, Q_HA_HO165, Q_HO168, Q_HI0_e4, Q_HO177, Q_HI0_e14, Q_HO181, fun h0_ => absurd ((hoff 17 (by kernel_rfl)).symm.trans h0_) (by decide), Q_X5_, Q_X14_, fun h0_ => absurd ((hoff 16 (by kernel_rfl)).symm.trans h0_) (by decide)⟩
       refine steps_cons ?_ ?_
       ·rintro b a w' ⟨v164, adz_v164, v167, v176, v180, m5_, m14_, m16_, ha, Q_HO160, Q_BK152, Q_BK162, Q_HI0, Q_HK, Q_HB, Q_HO165, Q_HA_HO165, Q_HO168, Q_HI0_e4, Q_HO177, Q_HI0_e14, Q_HO181, Q_BK152_e17, Q_X5_, Q_X14_, Q_X16_⟩ hb_ hon hoff
        refine ⟨_, rfl, fun K hK => ?_⟩
        have e9 : a.tmps[9]? = some (.pointer (some ⟨gb162, 0, none⟩)) := by rw [ha]; exact (putSel_off rfl).trans rfl
        replace ha := yJ ha
        have HO160 := yJ (Q_HO160 (hoff 15 (by kernel_rfl)))
        have BK152 := yJ (Q_BK152 (hoff 17 (by kernel_rfl)))
        have BK162 := yJ Q_BK162;have HK := yJ Q_HK;have HB := yJ Q_HB
        have hc0_ : w'.cell? ⟨gb162, 0, none⟩ = some (.int .i64 t155) := (yE BK162.out 0).trans rfl
        have hc1_ : w'.cell? ⟨gb162, 1, none⟩ = some (.string t156) := (yE BK162.out 1).trans rfl
        have hc2_ : w'.cell? ⟨gb162, 2, none⟩ = some (.int .i64 t157) := (yE BK162.out 2).trans rfl
        have hc3_ : w'.cell? ⟨gb162, 3, none⟩ = some (.slice Ao21 t158.length co21) := (yE BK162.out 3).trans rfl
        refine value_ (w1 := w') (v := .agg #[.int .i64 t155, .string t156, .int .i64 t157, .slice Ao21 t158.length co21]) (by rfl) rfl ?_ ?_
        ·go_simp
         (try simp only [i64_w])
         try rfl
        refine hK.out _ _ ⟨v164, adz_v164, v167, v176, v180, m5_, m14_, m16_, (by rw [ha.out]; exact putSel_upk 6 hb_ rfl rfl rfl), Q_HO160, Q_BK152, Q_BK162, Q_HI0, Q_HK, Q_HB, Q_HO165, Q_HA_HO165, Q_HO168, Q_HI0_e4, Q_HO177, Q_HI0_e14, fun h0_ => absurd ((hoff 15 (by kernel_rfl)).symm.trans h0_) (by decide), fun h0_ => absurd ((hoff 17 (by kernel_rfl)).symm.trans h0_) (by decide), Q_X5_, Q_X14_, fun h0_ => absurd ((hoff 16 (by kernel_rfl)).symm.trans h0_) (by decide)⟩
       refine steps_cons ?_ ?_
       ·rintro b a w' ⟨v164, adz_v164, v167, v176, v180, m5_, m14_, m16_, ha, Q_HO160, Q_BK152, Q_BK162, Q_HI0, Q_HK, Q_HB, Q_HO165, Q_HA_HO165, Q_HO168, Q_HI0_e4, Q_HO177, Q_HI0_e14, Q_HO181, Q_BK152_e17, Q_X5_, Q_X14_, Q_X16_⟩ hb_ hon hoff
        refine ⟨_, rfl, fun K hK => ?_⟩
        have e34 : a.tmps[34]? = some (.int .i64 a1) := by rw [ha]; exact (putSel_off rfl).trans rfl
        replace ha := yJ ha
        have HO160 := yJ (Q_HO160 (hoff 15 (by kernel_rfl)))
        have BK152 := yJ (Q_BK152 (hoff 17 (by kernel_rfl)))
        have BK162 := yJ Q_BK162;have HK := yJ Q_HK;have HB := yJ Q_HB
        refine value_ (w1 := w') (v := .int .i64 (wrap64 (a1 - 1))) (by rfl) rfl ?_ ?_
        ·go_simp
         (try simp only [i64_w])
         try rfl
        refine hK.out _ _ ⟨v164, adz_v164, v167, v176, v180, m5_, m14_, m16_, (by rw [ha.out]; exact putSel_upk 7 hb_ rfl rfl rfl), Q_HO160, Q_BK152, Q_BK162, Q_HI0, Q_HK, Q_HB, Q_HO165, Q_HA_HO165, Q_HO168, Q_HI0_e4, fun h0_ _ => absurd ((hoff 14 (by kernel_rfl)).symm.trans h0_) (by decide), fun h0_ => absurd ((hoff 14 (by kernel_rfl)).symm.trans h0_) (by decide), fun h0_ => absurd ((hoff 15 (by kernel_rfl)).symm.trans h0_) (by decide), fun h0_ => absurd ((hoff 17 (by kernel_rfl)).symm.trans h0_) (by decide), Q_X5_, fun h0_ => absurd ((hoff 14 (by kernel_rfl)).symm.trans h0_) (by decide), fun h0_ => absurd ((hoff 16 (by kernel_rfl)).symm.trans h0_) (by decide)⟩
       refine steps_cons ?_ ?_
       ·rintro b a w' ⟨v164, adz_v164, v167, v176, v180, m5_, m14_, m16_, ha, Q_HO160, Q_BK152, Q_BK162, Q_HI0, Q_HK, Q_HB, Q_HO165, Q_HA_HO165, Q_HO168, Q_HI0_e4, Q_HO177, Q_HI0_e14, Q_HO181, Q_BK152_e17, Q_X5_, Q_X14_, Q_X16_⟩ hb_ hon hoff
        refine ⟨_, rfl, fun K hK => ?_⟩
        have e36 : a.tmps[36]? = some (.int .i64 a2) := by rw [ha]; exact (putSel_off rfl).trans rfl
        replace ha := yJ ha
        have HO160 := yJ (Q_HO160 (hoff 15 (by kernel_rfl)))
        have BK152 := yJ (Q_BK152 (hoff 17 (by kernel_rfl)))
        have BK162 := yJ Q_BK162;have HK := yJ Q_HK;have HB := yJ Q_HB
        refine value_ (w1 := w') (v := .int .i64 (wrap64 (a2 + 1))) (by rfl) rfl ?_ ?_
        ·go_simp
         (try simp only [i64_w])
         try rfl
        refine hK.out _ _ ⟨v164, adz_v164, v167, v176, v180, m5_, m14_, m16_, (by rw [ha.out]; exact putSel_upk 8 hb_ rfl rfl rfl), Q_HO160, Q_BK152, Q_BK162, Q_HI0, Q_HK, Q_HB, Q_HO165, Q_HA_HO165, Q_HO168, Q_HI0_e4, fun h0_ _ => absurd ((hoff 14 (by kernel_rfl)).symm.trans h0_) (by decide), fun h0_ => absurd ((hoff 14 (by kernel_rfl)).symm.trans h0_) (by decide), fun h0_ => absurd ((hoff 15 (by kernel_rfl)).symm.trans h0_) (by decide), fun h0_ => absurd ((hoff 17 (by kernel_rfl)).symm.trans h0_) (by decide), Q_X5_, fun h0_ => absurd ((hoff 14 (by kernel_rfl)).symm.trans h0_) (by decide), fun h0_ => absurd ((hoff 16 (by kernel_rfl)).symm.trans h0_) (by decide)⟩
       refine steps_cons ?_ ?_
       ·rintro b a w' ⟨v164, adz_v164, v167, v176, v180, m5_, m14_, m16_, ha, Q_HO160, Q_BK152, Q_BK162, Q_HI0, Q_HK, Q_HB, Q_HO165, Q_HA_HO165, Q_HO168, Q_HI0_e4, Q_HO177, Q_HI0_e14, Q_HO181, Q_BK152_e17, Q_X5_, Q_X14_, Q_X16_⟩ hb_ hon hoff
        refine ⟨_, rfl, fun K hK => ?_⟩
        have e33 : a.tmps[33]? = some (.pointer (some ⟨g, 0, none⟩)) := by rw [ha]; exact (putSel_off rfl).trans rfl
        have e35 : a.tmps[35]? = some (.int .i64 (wrap64 (a1 - 1))) := by rw [ha]; exact putSel_on (e := (10, 35, .int .i64 (wrap64 (a1 - 1)))) 7 rfl rfl (hon 10 (by kernel_rfl)) rfl
        have e37 : a.tmps[37]? = some (.int .i64 (wrap64 (a2 + 1))) := by rw [ha]; exact putSel_on (e := (12, 37, .int .i64 (wrap64 (a2 + 1)))) 8 rfl rfl (hon 12 (by kernel_rfl)) rfl
        have e38 : a.tmps[38]? = some (.int .i64 a3) := by rw [ha]; exact (putSel_off rfl).trans rfl
        replace ha := yJ ha
        have HO160 := yJ (Q_HO160 (hoff 15 (by kernel_rfl)))
        have BK152 := yJ (Q_BK152 (hoff 17 (by kernel_rfl)))
        have BK162 := yJ Q_BK162;have HK := yJ Q_HK;have HB := yJ Q_HB
        have HO168 := yJ (Q_HO168 (hon 2 (by kernel_rfl)))
        have HI0 := yJ (Q_HI0_e4 (hon 4 (by kernel_rfl)) hb_)
        obtain ⟨Ao29, co29, eo29⟩ := RN_slice HO168.out.1
        (first | subst eo29 | (injection eo29 with f1_ f2_ f3_; have f4_ := f1_.symm; have f5_ := f3_.symm; clear f1_ f2_ f3_; subst f4_; subst f5_))
        refine goes_ Tryd.func109 (by kernel_rfl) rfl #[.pointer (some ⟨g, 0, none⟩), .int .i64 (wrap64 (a1 - 1)), .int .i64 (wrap64 (a2 + 1)), .int .i64 a3] (by rfl) rfl rfl (by first | (simp only [List.map_toArray, List.map_cons, List.map_nil, Act.eval, Array.getD_eq_getD_getElem?, Option.getD_some, e33, e35, e37, e38]; done) | (simp only [List.map_toArray, List.map_cons, List.map_nil, Act.eval, Array.getD_eq_getD_getElem?, Option.getD_some, e33, e35, e37, e38]; rfl)) ?_
        with_reducible refine (ih kj4 (by have := HJ4.out; omega) g s0_0 t170 (wrap64 (a1 - 1)) (wrap64 (a2 + 1)) a3 t172 t173 t174 t175 t178 w0 _ ?side1 ?side2 A15.out HNL.out).mono ?_
        (case side1 => repeat (first | (with_reducible first | exact HI0.out | apply IsS46.alloc | apply IsS46.drewN | apply IsS46.drew | apply IsS46.set_1 | refine IsS46.far ?_ NB0_152.out _ | refine IsS46.far ?_ NB0_162.out _) | exact HI0.out))
        (case side2 => repeat (first | (with_reducible first | exact HB.out | apply yF | apply yG | apply yH | refine yI ?_ (IsS46.ge HI0.out) | refine yI ?_ GE152.out | refine yI ?_ GE162.out) | exact HB.out))
        rintro e w30 ⟨v176, rfl, ho0, hi, hb, hk⟩
        refine ⟨_, rfl, ?_⟩
        have n0_ := yJ (KeepBut.blk hk (g' := gb152) (o := .cells #[.int .i64 0, .string (⟨#[]⟩ : ByteArray), .int .i64 0, .slice none 0 0] 25 (0, 0)) (pk BK152.out) NB152_0.out (by simp))
        have n1_ := yJ (Kd.N_mono (Kd.N_told (Kd.N_oldK (Kd.N_mono (ok := fun k_ => (((w.heap.size ≤ k_)) ∧ (some k_ ≠ (.slice none 0 0 : Value).ownBlock ∧ (k_ ≠ g ∧ (k_ ≠ gb152 ∧ k_ ≠ gb162))))) (by (with_reducible repeat (first | apply Kd.N_alloc | apply Kd.N_drewN | apply Kd.N_drew)); first | exact HO160.out | exact Kd.N_mono HO160.out (fun k_ hk => by have h_ := hk; (try simp only [Value.ownBlock, ne_eq, reduceCtorEq, not_false_eq_true, true_and] at h_ ⊢); (first | done | exact h_ | omega | grind))) (fun k_ hk_ => (⟨hk_, by have h_ := hk_; (try simp only [Value.ownBlock, ne_eq, reduceCtorEq, not_false_eq_true, true_and] at h_ ⊢); (first | done | exact h_ | omega | grind)⟩ : _ ∧ k_ ≠ g))) hk) (Kd.N_base ho0)) (fun _ h_ => h_.1))
        have n2_ := yJ (KeepBut.blk hk (g' := gb162) (o := .cells #[.int .i64 t155, .string t156, .int .i64 t157, .slice Ao21 t158.length co21] 25 (0, 0)) (pk BK162.out) NB162_0.out (by simp))
        have n3_ := yJ (And.intro HO168.out.1 (Kd.R_mono (Kd.R_keep (IsS46.apart (show IsS46 w0 _ g s0_0 t170 from by repeat (first | (with_reducible first | exact HI0.out | apply IsS46.alloc | apply IsS46.drewN | apply IsS46.drew | apply IsS46.set_1 | refine IsS46.far ?_ NB0_152.out _ | refine IsS46.far ?_ NB0_162.out _) | exact HI0.out)) (by (with_reducible repeat (first | apply Kd.R_alloc | apply Kd.R_drewN | apply Kd.R_drew)); exact HO168.out.2) (by decide)) hk (fun _ h => h.2)) (fun _ h => h.1)))
        have n4_ := yJ (Kd.N_lower (Kd.N_mono (ok' := fun k_ => (w.heap.size ≤ k_) ∧ some k_ ≠ (.slice Ao21 t158.length co21 : Value).ownBlock ∧ some k_ ≠ (.slice none 0 0 : Value).ownBlock ∧ k_ ≠ gb152 ∧ k_ ≠ gb162 ∧ k_ ≠ g) ho0 (fun k_ hk_ => ⟨(Nat.le_trans (keep_size (w := w) (g := g) (row := none) (by repeat (first | (with_reducible first | exact HK.out | apply KeepBut.set_ | apply keep_drewN | apply keep_drew | apply keep_alloc | refine keep_far ?_ GW152.out _ | refine keep_far ?_ GW162.out _) | exact HK.out))) hk_), (Kd.fresh' (Kd.N_lt (by (with_reducible repeat (first | apply Kd.N_alloc | apply Kd.N_drewN | apply Kd.N_drew)); first | exact HO160.out | exact Kd.N_mono HO160.out (fun k_ hk => by have h_ := hk; (try simp only [Value.ownBlock, ne_eq, reduceCtorEq, not_false_eq_true, true_and] at h_ ⊢); (first | done | exact h_ | omega | grind)))) k_ hk_), (Kd.fresh' (Kd.R_lt (by (with_reducible repeat (first | apply Kd.R_alloc | apply Kd.R_drewN | apply Kd.R_drew)); exact HO168.out.2)) k_ hk_), (Kd.freshB (g := gb152) (o := .cells #[.int .i64 0, .string (⟨#[]⟩ : ByteArray), .int .i64 0, .slice none 0 0] 25 (0, 0)) (pk BK152.out) k_ hk_), (Kd.freshB (g := gb162) (o := .cells #[.int .i64 t155, .string t156, .int .i64 t157, .slice Ao21 t158.length co21] 25 (0, 0)) (pk BK162.out) k_ hk_), (IsS46.fresh (by repeat (first | (with_reducible first | exact HI0.out | apply IsS46.alloc | apply IsS46.drewN | apply IsS46.drew | apply IsS46.set_1 | refine IsS46.far ?_ NB0_152.out _ | refine IsS46.far ?_ NB0_162.out _) | exact HI0.out)) k_ hk_)⟩)) (keep_size (w := w) (g := g) (row := none) (by repeat (first | (with_reducible first | exact HK.out | apply KeepBut.set_ | apply keep_drewN | apply keep_drew | apply keep_alloc | refine keep_far ?_ GW152.out _ | refine keep_far ?_ GW162.out _) | exact HK.out))))
        have n5_ := yJ (KeepBut.trans (by repeat (first | (with_reducible first | exact HK.out | apply KeepBut.set_ | apply keep_drewN | apply keep_drew | apply keep_alloc | refine keep_far ?_ GW152.out _ | refine keep_far ?_ GW162.out _) | exact HK.out)) hk (.inl rfl))
        have n6_ := yJ (hb)
        have n7_ := yJ (hi)
        have z_HO165 := fun (h0_ : b 0 = true) => (show ((v164 : Value) = .slice (some NA) y163.length Nc ∧ Kd.R Kd.string 9 w30 w.heap.size (fun k_ => (w.heap.size ≤ k_)) (.slice none 0 0) []) from ⟨(Q_HO165 h0_).1, Kd.R_nil _ _ _ _ _⟩)
        clear BK152 HO160 BK162 HO168 HK HB HI0;have BK152 := n0_;have HO160 := n1_;have BK162 := n2_;have HO168 := n3_;have HO177 := n4_;have HK := n5_;have HB := n6_;have HI0 := n7_;clear n0_ n1_ n2_ n3_ n4_ n5_ n6_ n7_;(try clear hb);(try clear hb2);(try clear hk);(try clear hi);(try clear ho0)
        refine hK.out _ _ ⟨v164, adz_v164, .slice Ao29 y166.length co29, v176, v180, m5_, (.agg #[.int .i64 t172, .string t173, .int .i64 t174, v176]), m16_, (by rw [ha.out]; exact putSel_upk 9 hb_ rfl rfl rfl), fun _ => (by (with_reducible repeat (first | apply Kd.N_alloc | apply Kd.N_drewN | apply Kd.N_drew)); exact Kd.N_mono HO160.out (fun k_ hk => by have h_ := hk; (try simp only [Value.ownBlock, ne_eq, reduceCtorEq, not_false_eq_true, true_and] at h_ ⊢); (first | done | exact h_ | omega | grind))), fun _ => (pk BK152.out), (pk BK162.out), fun h0_ => absurd ((hon 4 (by kernel_rfl)).symm.trans h0_) (by decide), (by repeat (first | (with_reducible first | exact HK.out | apply KeepBut.set_ | apply keep_drewN | apply keep_drew | apply keep_alloc | refine keep_far ?_ GW152.out _ | refine keep_far ?_ GW162.out _) | exact HK.out)), (by repeat (first | (with_reducible first | exact HB.out | apply yF | apply yG | apply yH | refine yI ?_ (IsS46.ge HI0.out) | refine yI ?_ GE152.out | refine yI ?_ GE162.out) | exact HB.out)), z_HO165, Q_HA_HO165, fun _ => ⟨HO168.out.1, Kd.R_nil _ _ _ _ _⟩, fun _ h1_ => absurd ((up_self b 14).symm.trans h1_) (by decide), fun _ _ => (by (with_reducible repeat (first | apply Kd.N_alloc | apply Kd.N_drewN | apply Kd.N_drew)); exact Kd.N_mono HO177.out (fun k_ hk => by have h_ := hk; (try simp only [Value.ownBlock, ne_eq, reduceCtorEq, not_false_eq_true, true_and] at h_ ⊢); (first | done | exact h_ | omega | grind))), fun _ => (by repeat (first | (with_reducible first | exact HI0.out | apply IsS46.alloc | apply IsS46.drewN | apply IsS46.drew | apply IsS46.set_1 | refine IsS46.far ?_ NB0_152.out _ | refine IsS46.far ?_ NB0_162.out _) | exact HI0.out)), fun h0_ => absurd ((hoff 15 (by kernel_rfl)).symm.trans h0_) (by decide), fun h0_ => absurd ((hoff 17 (by kernel_rfl)).symm.trans h0_) (by decide), Q_X5_, fun _ => rfl, fun h0_ => absurd ((hoff 16 (by kernel_rfl)).symm.trans h0_) (by decide)⟩
       refine steps_cons ?_ ?_
       ·rintro b a w' ⟨v164, adz_v164, v167, v176, v180, m5_, m14_, m16_, ha, Q_HO160, Q_BK152, Q_BK162, Q_HI0, Q_HK, Q_HB, Q_HO165, Q_HA_HO165, Q_HO168, Q_HI0_e4, Q_HO177, Q_HI0_e14, Q_HO181, Q_BK152_e17, Q_X5_, Q_X14_, Q_X16_⟩ hb_ hon hoff
        refine ⟨_, rfl, fun K hK => ?_⟩
        have e32 : a.tmps[32]? = some (.agg #[.int .i64 t155, .string t156, .int .i64 t157, .slice Ao21 t158.length co21]) := by rw [ha]; exact putSel_on (e := (7, 32, .agg #[.int .i64 t155, .string t156, .int .i64 t157, .slice Ao21 t158.length co21])) 6 rfl rfl (hon 7 (by kernel_rfl)) rfl
        have e39 : a.tmps[39]? = some (m14_) := by rw [ha]; exact putSel_on (e := (14, 39, m14_)) 9 rfl rfl (hon 14 (by kernel_rfl)) rfl
        rw [Q_X14_ (hon 14 (by kernel_rfl))] at e39
        replace ha := yJ ha
        have HO160 := yJ (Q_HO160 hb_)
        have BK152 := yJ (Q_BK152 (hoff 17 (by kernel_rfl)))
        have BK162 := yJ Q_BK162;have HK := yJ Q_HK;have HB := yJ Q_HB
        have HO168 := yJ (Q_HO168 (hon 2 (by kernel_rfl)))
        have HO177 := yJ (Q_HO177 (hon 14 (by kernel_rfl)) hb_)
        have HI0 := yJ (Q_HI0_e14 (hon 14 (by kernel_rfl)))
        obtain ⟨Ao30, co30, eo30⟩ := RN_slice HO168.out.1
        (first | subst eo30 | (injection eo30 with f1_ f2_ f3_; have f4_ := f1_.symm; have f5_ := f3_.symm; clear f1_ f2_ f3_; subst f4_; subst f5_))
        obtain ⟨Ao31, co31, eo31⟩ := Kd.N_slice HO177.out
        (first | subst eo31 | (injection eo31 with f1_ f2_ f3_; have f4_ := f1_.symm; have f5_ := f3_.symm; clear f1_ f2_ f3_; subst f4_; subst f5_))
        refine Kd.N_lit_step k25 _ 25 ?hg (N' := 40) ?hd (xs := ([(⟨t155, t156, t157, t158⟩ : S25), (⟨t172, t173, t174, t175⟩ : S25)] : List (S25))) (inner := [.int .i64 t155, .string t156, .int .i64 t157, .slice Ao21 t158.length co21, .int .i64 t172, .string t173, .int .i64 t174, .slice Ao31 t175.length co31]) (ok := (fun k_ => (w.heap.size ≤ k_) ∧ some k_ ≠ (.slice none 0 0 : Value).ownBlock ∧ k_ ≠ gb152 ∧ k_ ≠ gb162 ∧ k_ ≠ g)) (okp := (fun k_ => (w.heap.size ≤ k_) ∧ some k_ ≠ (.slice none 0 0 : Value).ownBlock ∧ k_ ≠ gb152 ∧ k_ ≠ gb162 ∧ k_ ≠ g)) ?hr ?hp (fun _ hk => hk) ((show ∀ k_, w'.heap.size ≤ k_ → (fun k_ => (w.heap.size ≤ k_) ∧ some k_ ≠ (.slice none 0 0 : Value).ownBlock ∧ k_ ≠ gb152 ∧ k_ ≠ gb162 ∧ k_ ≠ g) k_ from fun k_ hk => ⟨(Nat.le_trans (keep_size (w := w) (g := g) (row := none) (by repeat (first | (with_reducible first | exact HK.out | apply KeepBut.set_ | apply keep_drewN | apply keep_drew | apply keep_alloc | refine keep_far ?_ GW152.out _ | refine keep_far ?_ GW162.out _) | exact HK.out))) hk), Kd.fresh' (Kd.R_lt (by (with_reducible repeat (first | apply Kd.R_alloc | apply Kd.R_drewN | apply Kd.R_drew)); exact HO168.out.2)) k_ hk, Kd.freshB (g := gb152) (o := .cells #[.int .i64 0, .string (⟨#[]⟩ : ByteArray), .int .i64 0, .slice none 0 0] 25 (0, 0)) (pk BK152.out) k_ hk, Kd.freshB (g := gb162) (o := .cells #[.int .i64 t155, .string t156, .int .i64 t157, .slice Ao21 t158.length co21] 25 (0, 0)) (pk BK162.out) k_ hk, IsS46.fresh (by repeat (first | (with_reducible first | exact HI0.out | apply IsS46.alloc | apply IsS46.drewN | apply IsS46.drew | apply IsS46.set_1 | refine IsS46.far ?_ NB0_152.out _ | refine IsS46.far ?_ NB0_162.out _) | exact HI0.out)) k_ hk⟩) _ (Nat.le_refl _)) (Below.refl _ _) (Nat.le_refl _) (by simp) ?_; (case hd => rfl); (case hg => rfl); (case hr => first | (go_simp; done) | (go_simp; rfl)); (case hp => exact (Reps.c4 (show Kd.FK k25 _ _ (⟨t155, t156, t157, t158⟩ : S25) [.int .i64 t155, .string t156, .int .i64 t157, .slice Ao21 t158.length co21] from (k25_mkF _ _ (⟨t155, t156, t157, t158⟩ : S25) (Kd.N_reads' (Kd.N_mono (ok' := (fun k_ => (w.heap.size ≤ k_) ∧ some k_ ≠ (.slice none 0 0 : Value).ownBlock ∧ k_ ≠ gb152 ∧ k_ ≠ gb162 ∧ k_ ≠ g)) (HO160.out) (fun k_ hk => by have h_ := hk; (try simp only [Value.ownBlock, ne_eq, reduceCtorEq, not_false_eq_true, true_and] at h_ ⊢); (first | done | exact h_ | omega | grind)))).2.1 (Kd.N_F (Kd.N_mono (ok' := (fun k_ => (w.heap.size ≤ k_) ∧ some k_ ≠ (.slice none 0 0 : Value).ownBlock ∧ k_ ≠ gb152 ∧ k_ ≠ gb162 ∧ k_ ≠ g)) (HO160.out) (fun k_ hk => by have h_ := hk; (try simp only [Value.ownBlock, ne_eq, reduceCtorEq, not_false_eq_true, true_and] at h_ ⊢); (first | done | exact h_ | omega | grind)))))) (Reps.c4 (show Kd.FK k25 _ _ (⟨t172, t173, t174, t175⟩ : S25) [.int .i64 t172, .string t173, .int .i64 t174, .slice Ao31 t175.length co31] from (k25_mkF _ _ (⟨t172, t173, t174, t175⟩ : S25) (Kd.N_reads' (Kd.N_mono (ok' := (fun k_ => (w.heap.size ≤ k_) ∧ some k_ ≠ (.slice none 0 0 : Value).ownBlock ∧ k_ ≠ gb152 ∧ k_ ≠ gb162 ∧ k_ ≠ g)) (HO177.out) (fun k_ hk => by have h_ := hk; (try simp only [Value.ownBlock, ne_eq, reduceCtorEq, not_false_eq_true, true_and] at h_ ⊢); (first | done | exact h_ | omega | grind)))).2.1 (Kd.N_F (Kd.N_mono (ok' := (fun k_ => (w.heap.size ≤ k_) ∧ some k_ ≠ (.slice none 0 0 : Value).ownBlock ∧ k_ ≠ gb152 ∧ k_ ≠ gb162 ∧ k_ ≠ g)) (HO177.out) (fun k_ hk => by have h_ := hk; (try simp only [Value.ownBlock, ne_eq, reduceCtorEq, not_false_eq_true, true_and] at h_ ⊢); (first | done | exact h_ | omega | grind)))))) (Reps.none _ _))))
        intro v180 w32 ho33 hb hg_ hnew_
        clear hg_ hnew_
        (first | rw [← Ny179.out] at ho33 | (simp only [Int.reduceToNat] at ho33; rw [← Ny179.out] at ho33))
        have n0_ := yJ (And.intro HO168.out.1 (Kd.R_below (by (with_reducible repeat (first | apply Kd.R_alloc | apply Kd.R_drewN | apply Kd.R_drew)); exact HO168.out.2) hb))
        have n1_ := yJ (Kd.N_lower ho33 (keep_size (w := w) (g := g) (row := none) (by repeat (first | (with_reducible first | exact HK.out | apply KeepBut.set_ | apply keep_drewN | apply keep_drew | apply keep_alloc | refine keep_far ?_ GW152.out _ | refine keep_far ?_ GW162.out _) | exact HK.out))))
        have n2_ := yJ (blk_below (g := gb152) (o := .cells #[.int .i64 0, .string (⟨#[]⟩ : ByteArray), .int .i64 0, .slice none 0 0] 25 (0, 0)) (pk BK152.out) hb)
        have n3_ := yJ (IsS46.below (by repeat (first | (with_reducible first | exact HI0.out | apply IsS46.alloc | apply IsS46.drewN | apply IsS46.drew | apply IsS46.set_1 | refine IsS46.far ?_ NB0_152.out _ | refine IsS46.far ?_ NB0_162.out _) | exact HI0.out)) hb)
        have n4_ := yJ (blk_below (g := gb162) (o := .cells #[.int .i64 t155, .string t156, .int .i64 t157, .slice Ao21 t158.length co21] 25 (0, 0)) (pk BK162.out) hb)
        have n5_ := yJ (KeepBut.trans (by repeat (first | (with_reducible first | exact HK.out | apply KeepBut.set_ | apply keep_drewN | apply keep_drew | apply keep_alloc | refine keep_far ?_ GW152.out _ | refine keep_far ?_ GW162.out _) | exact HK.out)) (KeepBut.of_below hb g none) (.inl rfl))
        have n6_ := yJ (below_step (by repeat (first | (with_reducible first | exact HB.out | apply yF | apply yG | apply yH | refine yI ?_ (IsS46.ge HI0.out) | refine yI ?_ GE152.out | refine yI ?_ GE162.out) | exact HB.out)) hb)
        have z_HO165 := fun (h0_ : b 0 = true) => (show ((v164 : Value) = .slice (some NA) y163.length Nc ∧ Kd.R Kd.string 9 w32 w.heap.size (fun k_ => (w.heap.size ≤ k_)) (.slice none 0 0) []) from ⟨(Q_HO165 h0_).1, Kd.R_nil _ _ _ _ _⟩)
        clear HO168 BK152 HI0 BK162 HK HB HO160 HO177;have HO168 := n0_;have HO181 := n1_;have BK152 := n2_;have HI0 := n3_;have BK162 := n4_;have HK := n5_;have HB := n6_;clear n0_ n1_ n2_ n3_ n4_ n5_ n6_ hb ho33
        refine hK.out _ _ ⟨v164, adz_v164, .slice Ao30 y166.length co30, .slice Ao31 t175.length co31, v180, m5_, m14_, m16_, (by rw [ha.out]; exact putSel_upk 10 hb_ rfl rfl rfl), fun h0_ => absurd ((up_self b 15).symm.trans h0_) (by decide), fun _ => (pk BK152.out), (pk BK162.out), fun h0_ => absurd ((hon 4 (by kernel_rfl)).symm.trans h0_) (by decide), (by repeat (first | (with_reducible first | exact HK.out | apply KeepBut.set_ | apply keep_drewN | apply keep_drew | apply keep_alloc | refine keep_far ?_ GW152.out _ | refine keep_far ?_ GW162.out _) | exact HK.out)), (by repeat (first | (with_reducible first | exact HB.out | apply yF | apply yG | apply yH | refine yI ?_ (IsS46.ge HI0.out) | refine yI ?_ GE152.out | refine yI ?_ GE162.out) | exact HB.out)), z_HO165, Q_HA_HO165, fun _ => ⟨HO168.out.1, Kd.R_nil _ _ _ _ _⟩, fun _ h1_ => absurd ((hon 14 (by kernel_rfl)).symm.trans h1_) (by decide), fun _ h1_ => absurd ((up_self b 15).symm.trans h1_) (by decide), fun _ => (by repeat (first | (with_reducible first | exact HI0.out | apply IsS46.alloc | apply IsS46.drewN | apply IsS46.drew | apply IsS46.set_1 | refine IsS46.far ?_ NB0_152.out _ | refine IsS46.far ?_ NB0_162.out _) | exact HI0.out)), fun _ => (by (with_reducible repeat (first | apply Kd.N_alloc | apply Kd.N_drewN | apply Kd.N_drew)); exact Kd.N_mono HO181.out (fun k_ hk => by have h_ := hk; (try simp only [Value.ownBlock, ne_eq, reduceCtorEq, not_false_eq_true, true_and] at h_ ⊢); (first | done | exact h_ | omega | grind))), fun h0_ => absurd ((hoff 17 (by kernel_rfl)).symm.trans h0_) (by decide), Q_X5_, Q_X14_, fun h0_ => absurd ((hoff 16 (by kernel_rfl)).symm.trans h0_) (by decide)⟩
       refine steps_cons ?_ ?_
       ·rintro b a w' ⟨v164, adz_v164, v167, v176, v180, m5_, m14_, m16_, ha, Q_HO160, Q_BK152, Q_BK162, Q_HI0, Q_HK, Q_HB, Q_HO165, Q_HA_HO165, Q_HO168, Q_HI0_e4, Q_HO177, Q_HI0_e14, Q_HO181, Q_BK152_e17, Q_X5_, Q_X14_, Q_X16_⟩ hb_ hon hoff
        refine ⟨_, rfl, fun K hK => ?_⟩
        have e31 : a.tmps[31]? = some (.string (rdOf ByteArray.empty y163 t169)) := by rw [ha]; exact putSel_on (e := (6, 31, .string (rdOf ByteArray.empty y163 t169))) 5 rfl rfl (hon 6 (by kernel_rfl)) rfl
        have e40 : a.tmps[40]? = some (v180) := by rw [ha]; exact putSel_on (e := (15, 40, v180)) 10 rfl rfl (hon 15 (by kernel_rfl)) rfl
        replace ha := yJ ha
        have BK152 := yJ (Q_BK152 (hoff 17 (by kernel_rfl)))
        have BK162 := yJ Q_BK162;have HK := yJ Q_HK;have HB := yJ Q_HB
        have HO165 := yJ (Q_HO165 (hon 0 (by kernel_rfl)))
        have HA_HO165 := yJ (Q_HA_HO165 (hon 0 (by kernel_rfl)))
        have HO168 := yJ (Q_HO168 (hon 2 (by kernel_rfl)))
        have HI0 := yJ (Q_HI0_e14 (hon 14 (by kernel_rfl)))
        have HO181 := yJ (Q_HO181 (hon 15 (by kernel_rfl)))
        obtain ⟨Ao16_0, co16_0, eo_⟩ := Kd.N_slice HO181.out
        subst eo_
        refine value_ (w1 := w') (v := .agg #[.int .i64 2, .string (rdOf ByteArray.empty y163 t169), .int .i64 0, .slice Ao16_0 y179.length co16_0]) (by rfl) rfl ?_ ?_
        ·go_simp
         (try simp only [i64_w])
         try rfl
        refine hK.out _ _ ⟨v164, adz_v164, v167, v176, .slice Ao16_0 y179.length co16_0, m5_, m14_, (.agg #[.int .i64 2, .string (rdOf ByteArray.empty y163 t169), .int .i64 0, .slice Ao16_0 y179.length co16_0]), (by rw [ha.out]; exact putSel_upk 11 hb_ rfl rfl rfl), fun h0_ => absurd ((hon 15 (by kernel_rfl)).symm.trans h0_) (by decide), Q_BK152, Q_BK162, fun h0_ => absurd ((hon 4 (by kernel_rfl)).symm.trans h0_) (by decide), Q_HK, Q_HB, Q_HO165, Q_HA_HO165, Q_HO168, fun _ h1_ => absurd ((hon 14 (by kernel_rfl)).symm.trans h1_) (by decide), fun _ h1_ => absurd ((hon 15 (by kernel_rfl)).symm.trans h1_) (by decide), Q_HI0_e14, Q_HO181, fun h0_ => absurd ((hoff 17 (by kernel_rfl)).symm.trans h0_) (by decide), Q_X5_, Q_X14_, fun _ => rfl⟩
       refine steps_cons ?_ ?_
       ·rintro b a w' ⟨v164, adz_v164, v167, v176, v180, m5_, m14_, m16_, ha, Q_HO160, Q_BK152, Q_BK162, Q_HI0, Q_HK, Q_HB, Q_HO165, Q_HA_HO165, Q_HO168, Q_HI0_e4, Q_HO177, Q_HI0_e14, Q_HO181, Q_BK152_e17, Q_X5_, Q_X14_, Q_X16_⟩ hb_ hon hoff
        refine ⟨_, rfl, fun K hK => ?_⟩
        have e8 : a.tmps[8]? = some (.pointer (some ⟨gb152, 0, none⟩)) := by rw [ha]; exact (putSel_off rfl).trans rfl
        have e41 : a.tmps[41]? = some (m16_) := by rw [ha]; exact putSel_on (e := (16, 41, m16_)) 11 rfl rfl (hon 16 (by kernel_rfl)) rfl
        rw [Q_X16_ (hon 16 (by kernel_rfl))] at e41
        replace ha := yJ ha
        have BK152 := yJ (Q_BK152 hb_)
        have BK162 := yJ Q_BK162;have HK := yJ Q_HK;have HB := yJ Q_HB
        have HO165 := yJ (Q_HO165 (hon 0 (by kernel_rfl)))
        have HA_HO165 := yJ (Q_HA_HO165 (hon 0 (by kernel_rfl)))
        have HO168 := yJ (Q_HO168 (hon 2 (by kernel_rfl)))
        have HI0 := yJ (Q_HI0_e14 (hon 14 (by kernel_rfl)))
        have HO181 := yJ (Q_HO181 (hon 15 (by kernel_rfl)))
        obtain ⟨co37, eo37⟩ := HA_HO165.out
        clear HA_HO165;subst eo37
        obtain ⟨Ao38, co38, eo38⟩ := RN_slice HO168.out.1
        (first | subst eo38 | (injection eo38 with f1_ f2_ f3_; have f4_ := f1_.symm; have f5_ := f3_.symm; clear f1_ f2_ f3_; subst f4_; subst f5_))
        obtain ⟨Ao39, co39, eo39⟩ := Kd.N_slice HO181.out
        (first | subst eo39 | (injection eo39 with f1_ f2_ f3_; have f4_ := f1_.symm; have f5_ := f3_.symm; clear f1_ f2_ f3_; subst f4_; subst f5_))
        have hs40 : w'.cell? ⟨gb152, 0, none⟩ = some (.int .i64 0) := (yE BK152.out 0).trans rfl
        have hfs40 := yD BK152.out 0
        have hns40_1 := NB162_152.out;have hms40_1 := NB152_162.out
        have hs41 : w'.cell? ⟨gb152, 1, none⟩ = some (.string (⟨#[]⟩ : ByteArray)) := (yE BK152.out 1).trans rfl
        have hfs41 := yD BK152.out 1
        have hns41_1 := NB162_152.out;have hms41_1 := NB152_162.out
        have hs42 : w'.cell? ⟨gb152, 2, none⟩ = some (.int .i64 0) := (yE BK152.out 2).trans rfl
        have hfs42 := yD BK152.out 2
        have hns42_1 := NB162_152.out;have hms42_1 := NB152_162.out
        have hs43 : w'.cell? ⟨gb152, 3, none⟩ = some (.slice none 0 0) := (yE BK152.out 3).trans rfl
        have hfs43 := yD BK152.out 3
        have hns43_1 := NB162_152.out;have hms43_1 := NB152_162.out
        refine skip_ (w1 := ?_) (by rfl) rfl ?_ ?_
        rotate_left
        ·go_simp
         rfl
        refine hK.out _ _ ⟨.slice (some adz_v164) y163.length co37, adz_v164, .slice Ao38 y166.length co38, v176, .slice Ao39 y179.length co39, m5_, m14_, m16_, (by rw [ha.out]; exact putSel_none (v := undef) rfl), fun h0_ => absurd ((hon 15 (by kernel_rfl)).symm.trans h0_) (by decide), fun h0_ => absurd ((up_self b 17).symm.trans h0_) (by decide), (pk BK162.out), fun h0_ => absurd ((hon 4 (by kernel_rfl)).symm.trans h0_) (by decide), (by repeat (first | (with_reducible first | exact HK.out | apply KeepBut.set_ | apply keep_drewN | apply keep_drew | apply keep_alloc | refine keep_far ?_ GW152.out _ | refine keep_far ?_ GW162.out _) | exact HK.out)), (by repeat (first | (with_reducible first | exact HB.out | apply yF | apply yG | apply yH | refine yI ?_ (IsS46.ge HI0.out) | refine yI ?_ GE152.out | refine yI ?_ GE162.out) | exact HB.out)), fun _ => ⟨HO165.out.1, Kd.R_nil _ _ _ _ _⟩, fun _ => ⟨_, rfl⟩, fun _ => ⟨HO168.out.1, Kd.R_nil _ _ _ _ _⟩, fun _ h1_ => absurd ((hon 14 (by kernel_rfl)).symm.trans h1_) (by decide), fun _ h1_ => absurd ((hon 15 (by kernel_rfl)).symm.trans h1_) (by decide), fun _ => (by repeat (first | (with_reducible first | exact HI0.out | apply IsS46.alloc | apply IsS46.drewN | apply IsS46.drew | apply IsS46.set_1 | refine IsS46.far ?_ NB0_152.out _ | refine IsS46.far ?_ NB0_162.out _) | exact HI0.out)), fun _ => (by (with_reducible repeat (first | apply Kd.N_alloc | apply Kd.N_drewN | apply Kd.N_drew)); exact Kd.N_mono (Kd.N_far (p := ⟨gb152, 3, none⟩) (Kd.N_far (p := ⟨gb152, 2, none⟩) (Kd.N_far (p := ⟨gb152, 1, none⟩) (Kd.N_far (p := ⟨gb152, 0, none⟩) (Kd.N_mono HO181.out (fun k_ hk => (⟨hk, by have h_ := hk; (try simp only [Value.ownBlock, ne_eq, reduceCtorEq, not_false_eq_true, true_and] at h_ ⊢); (first | done | exact h_ | omega | grind)⟩ : _ ∧ k_ ≠ gb152))) (fun _ hk => hk.2) (.int .i64 2)) (fun _ hk => hk.2) (.string (rdOf ByteArray.empty y163 t169))) (fun _ hk => hk.2) (.int .i64 0)) (fun _ hk => hk.2) (.slice Ao39 y179.length co39)) (fun k_ hk => by have h_ := hk; (try simp only [Value.ownBlock, ne_eq, reduceCtorEq, not_false_eq_true, true_and] at h_ ⊢); (first | done | exact h_ | omega | grind))), fun _ => (by (with_reducible repeat (first | refine yA ?_ _ | refine yB ?_ | refine yC ?_ _)); refine blk_put (cs := #[.int .i64 2, .string (rdOf ByteArray.empty y163 t169), .int .i64 0, .slice none 0 0]) ?_ 3 _ rfl; (with_reducible repeat (first | refine yA ?_ _ | refine yB ?_ | refine yC ?_ _)); refine blk_put (cs := #[.int .i64 2, .string (rdOf ByteArray.empty y163 t169), .int .i64 0, .slice none 0 0]) ?_ 2 _ rfl; (with_reducible repeat (first | refine yA ?_ _ | refine yB ?_ | refine yC ?_ _)); refine blk_put (cs := #[.int .i64 2, .string (⟨#[]⟩ : ByteArray), .int .i64 0, .slice none 0 0]) ?_ 1 _ rfl; (with_reducible repeat (first | refine yA ?_ _ | refine yB ?_ | refine yC ?_ _)); refine blk_put (cs := #[.int .i64 0, .string (⟨#[]⟩ : ByteArray), .int .i64 0, .slice none 0 0]) ?_ 0 _ rfl; (with_reducible repeat (first | refine yA ?_ _ | refine yB ?_ | refine yC ?_ _)); exact BK152.out), Q_X5_, Q_X14_, Q_X16_⟩
       exact steps_nil
      rintro b a w40 hall ⟨v164, adz_v164, v167, v176, v180, m5_, m14_, m16_, ha, Q_HO160, Q_BK152, Q_BK162, Q_HI0, Q_HK, Q_HB, Q_HO165, Q_HA_HO165, Q_HO168, Q_HI0_e4, Q_HO177, Q_HI0_e14, Q_HO181, Q_BK152_e17, Q_X5_, Q_X14_, Q_X16_⟩
      clear BK152 BK162 HB HI0 HK HO160
      have hb0_ := hall 0 (by kernel_rfl)
      have hb2_ := hall 2 (by kernel_rfl)
      have hb3_ := hall 3 (by kernel_rfl)
      have hb4_ := hall 4 (by kernel_rfl)
      have hb5_ := hall 5 (by kernel_rfl)
      have hb6_ := hall 6 (by kernel_rfl)
      have hb7_ := hall 7 (by kernel_rfl)
      have hb10_ := hall 10 (by kernel_rfl)
      have hb12_ := hall 12 (by kernel_rfl)
      have hb14_ := hall 14 (by kernel_rfl)
      have hb15_ := hall 15 (by kernel_rfl)
      have hb16_ := hall 16 (by kernel_rfl)
      have hb17_ := hall 17 (by kernel_rfl)
      subst ha
      obtain rfl := Q_X5_ hb5_
      obtain rfl := Q_X14_ hb14_
      obtain rfl := Q_X16_ hb16_
      simp only [putSel, hb0_, hb2_, hb3_, hb4_, hb5_, hb6_, hb7_, hb10_, hb12_, hb14_, hb15_, hb16_, hb17_, if_true, Act.put, List.setIfInBounds_toArray, List.set_cons_zero, List.set_cons_succ]
      clear Q_HO160 Q_BK152;have BK162 := yJ Q_BK162;clear Q_BK162 Q_HI0;have HK := yJ Q_HK;clear Q_HK;have HB := yJ Q_HB;clear Q_HB
      have HO165 := yJ (Q_HO165 hb0_)
      clear Q_HO165
      have HA_HO165 := yJ (Q_HA_HO165 hb0_)
      clear Q_HA_HO165
      have HO168 := yJ (Q_HO168 hb2_)
      clear Q_HO168 Q_HI0_e4 Q_HO177
      have HI0 := yJ (Q_HI0_e14 hb14_)
      clear Q_HI0_e14
      have HO181 := yJ (Q_HO181 hb15_)
      clear Q_HO181
      have BK152 := yJ (Q_BK152_e17 hb17_)
      clear Q_BK152_e17 hall hb0_ hb2_ hb3_ hb4_ hb5_ hb6_ hb7_ hb10_ hb12_ hb14_ hb15_ hb16_ hb17_
      obtain ⟨co41, eo41⟩ := HA_HO165.out
      clear HA_HO165;subst eo41
      obtain ⟨Ao42, co42, eo42⟩ := RN_slice HO168.out.1
      (first | subst eo42 | (injection eo42 with f1_ f2_ f3_; have f4_ := f1_.symm; have f5_ := f3_.symm; clear f1_ f2_ f3_; subst f4_; subst f5_))
      clear HO165
      have HO165 := yJ (Kd.R_nil Kd.string 9 w40 w.heap.size (fun k_ => (w.heap.size ≤ k_)))
      clear HO168
      have HO168 := yJ (Kd.R_nil Kd.string 9 w40 w.heap.size (fun k_ => (w.heap.size ≤ k_)))
      obtain ⟨Ao43, co43, eo43⟩ := Kd.N_slice HO181.out
      (first | subst eo43 | (injection eo43 with f1_ f2_ f3_; have f4_ := f1_.symm; have f5_ := f3_.symm; clear f1_ f2_ f3_; subst f4_; subst f5_))
      try go_wp2
      refine bodyPost_ret (results_cell_row rfl _ _ gb152 25 #[.int .i64 2, .string (rdOf ByteArray.empty y163 t169), .int .i64 0, .slice Ao43 y179.length co43] (0, 0) _ rfl (pk BK152.out) Tryd.underlying25 rfl (by kernel_rfl)) rfl ?_
      exact ⟨_, by first | rfl | (simp [errW_none, errW_some] <;> rfl) | (simp [*, errW_none, errW_some] <;> rfl), by (with_reducible repeat (first | apply Kd.N_alloc | apply Kd.N_drewN | apply Kd.N_drew)); exact Kd.N_mono HO181.out (fun _ hk => hk.1), by repeat (first | (with_reducible first | exact HI0.out | apply IsS46.alloc | apply IsS46.drewN | apply IsS46.drew | apply IsS46.set_1 | refine IsS46.far ?_ NB0_152.out _ | refine IsS46.far ?_ NB0_162.out _) | exact HI0.out), by repeat (first | (with_reducible first | exact HB.out | apply yF | apply yG | apply yH | refine yI ?_ (IsS46.ge HI0.out) | refine yI ?_ GE152.out | refine yI ?_ GE162.out) | exact HB.out), by repeat (first | (with_reducible first | exact HK.out | apply KeepBut.set_ | apply keep_drewN | apply keep_drew | apply keep_alloc | refine keep_far ?_ GW152.out _ | refine keep_far ?_ GW162.out _) | exact HK.out)⟩
     ·rw [if_neg c14] at H
      exact absurd H (by simp)
    ·rw [if_neg c13] at H
     exact absurd H (by simp)
   ·replace c10 := Bool.eq_false_iff.mpr c10
    subst c10
    have H1 : ((some (([(⟨#[110, 97, 116]⟩ : ByteArray), (⟨#[118, 101, 99]⟩ : ByteArray), (⟨#[116, 109]⟩ : ByteArray)] : List ByteArray) : List ByteArray)).bind fun y182 => ((fm_Tape_Next.f s0_0 x1001_4 3).bind fun bt185 => (if 0 ≤ bt185.1 then (if bt185.1 < (y182.length : Int) then ((fm_Tape_Next.f s0_0 bt185.2 3).bind fun bt189 => (fm_Type.l0 kj4 a1 a2 a3 bt189.1 s0_0 bt189.2 4 (rdOf ByteArray.empty y182 bt185.1) 0 ([] : List (S25)))) else (none)) else (none)))) = some (r1, r2, r3, r4, r5) := by rw [if_neg (show ¬ (false = true) by decide)] at H; exact H
    clear H;have H := H1;clear H1
    obtain ⟨y182, hy182⟩ : ∃ y_ : List ByteArray, y_ = (([(⟨#[110, 97, 116]⟩ : ByteArray), (⟨#[118, 101, 99]⟩ : ByteArray), (⟨#[116, 109]⟩ : ByteArray)] : List ByteArray)) := ⟨_, rfl⟩
    replace H : ((fm_Tape_Next.f s0_0 x1001_4 3).bind fun bt185 => (if 0 ≤ bt185.1 then (if bt185.1 < (y182.length : Int) then ((fm_Tape_Next.f s0_0 bt185.2 3).bind fun bt189 => (fm_Type.l0 kj4 a1 a2 a3 bt189.1 s0_0 bt189.2 4 (rdOf ByteArray.empty y182 bt185.1) 0 ([] : List (S25)))) else (none)) else (none))) = some (r1, r2, r3, r4, r5) := by first | (rw [hy182]; with_reducible exact H) | (have H2_ := (Option.bind_some _ _).symm.trans H; rw [hy182]; with_reducible exact H2_) | (have H2_ := (Option.bind_some _ _).symm.trans H; with_reducible exact H2_) | with_reducible exact H | (rw [hy182]; exact H) | exact H
    have Ny182 := yJ hy182;clear hy182;replace H := yK H
    obtain ⟨⟨t185, t186⟩, A440, H⟩ := H
    replace H : (if 0 ≤ t185 then (if t185 < (y182.length : Int) then ((fm_Tape_Next.f s0_0 t186 3).bind fun bt189 => (fm_Type.l0 kj4 a1 a2 a3 bt189.1 s0_0 bt189.2 4 (rdOf ByteArray.empty y182 t185) 0 ([] : List (S25)))) else (none)) else (none)) = some (r1, r2, r3, r4, r5) := H
    have A44 := yJ A440;clear A440
    by_cases c45 : 0 ≤ t185
    ·rw [if_pos c45] at H
     have c45b0 : decide (0 ≤ t185) = true := decide_eq_true c45
     clear c45
     by_cases c46 : t185 < (y182.length : Int)
     ·rw [if_pos c46] at H
      have c46b0 : decide (t185 < (y182.length : Int)) = true := decide_eq_true c46
      clear c46;replace H := yK H
      obtain ⟨⟨t189, t190⟩, A470, H⟩ := H
      replace H : (fm_Type.l0 kj4 a1 a2 a3 t189 s0_0 t190 4 (rdOf ByteArray.empty y182 t185) 0 ([] : List (S25))) = some (r1, r2, r3, r4, r5) := H
      have A47 := yJ A470;clear A470
      have H' := yJ H
      clear H
      go_wp2_with (first | ((with_reducible refine gate_dst (N := 42) rfl ?_); refine Kd.R_lit Kd.string _ 9 ?hg (N := 42) ?hd (xs := ([(⟨#[110, 97, 116]⟩ : ByteArray), (⟨#[118, 101, 99]⟩ : ByteArray), (⟨#[116, 109]⟩ : ByteArray)] : List ByteArray)) (inner := [.string (⟨#[110, 97, 116]⟩ : ByteArray), .string (⟨#[118, 101, 99]⟩ : ByteArray), .string (⟨#[116, 109]⟩ : ByteArray)]) (ok := fun _ => True) (okp := fun _ => True) ?hr ?hp (fun _ hk => hk) trivial (Below.refl _ _) (Nat.le_refl _) (by simp) ?_; (case hd => rfl); (case hg => rfl); (case hr => first | (go_simp; done) | (go_simp; rfl)); (case hp => exact (Reps.one (show Kd.M Kd.string _ _ _ (⟨#[110, 97, 116]⟩ : ByteArray) [.string (⟨#[110, 97, 116]⟩ : ByteArray)] from rfl) (Reps.one (show Kd.M Kd.string _ _ _ (⟨#[118, 101, 99]⟩ : ByteArray) [.string (⟨#[118, 101, 99]⟩ : ByteArray)] from rfl) (Reps.one (show Kd.M Kd.string _ _ _ (⟨#[116, 109]⟩ : ByteArray) [.string (⟨#[116, 109]⟩ : ByteArray)] from rfl) (Reps.none _ _))))); intro v183 w48 ho49 hb hg_ hnew_; clear hg_ hnew_; (first | rw [← Ny182.out] at ho49 | (simp only [Int.reduceToNat] at ho49; rw [← Ny182.out] at ho49)); have n0_ := yJ (Kd.R_lower (Kd.R_newM (M := fun k_ => (w.heap.size ≤ k_)) ho49 (keep_size (w := w) (g := g) (row := none) (by repeat (first | (with_reducible first | exact HK.out | apply KeepBut.set_ | apply keep_drewN | apply keep_drew | apply keep_alloc | refine keep_far ?_ GW152.out _) | exact HK.out))) (fun k_ h_ => h_)) (keep_size (w := w) (g := g) (row := none) (by repeat (first | (with_reducible first | exact HK.out | apply KeepBut.set_ | apply keep_drewN | apply keep_drew | apply keep_alloc | refine keep_far ?_ GW152.out _) | exact HK.out)))); have n1_ := yJ (blk_below (g := gb152) (o := .cells #[.int .i64 0, .string (⟨#[]⟩ : ByteArray), .int .i64 0, .slice none 0 0] 25 (0, 0)) (pk BK152.out) hb); have n2_ := yJ (IsS46.below (by repeat (first | (with_reducible first | exact HI0.out | apply IsS46.alloc | apply IsS46.drewN | apply IsS46.drew | apply IsS46.set_1 | refine IsS46.far ?_ NB0_152.out _) | exact HI0.out)) hb); have n3_ := yJ (KeepBut.trans (by repeat (first | (with_reducible first | exact HK.out | apply KeepBut.set_ | apply keep_drewN | apply keep_drew | apply keep_alloc | refine keep_far ?_ GW152.out _) | exact HK.out)) (KeepBut.of_below hb g none) (.inl rfl)); have n4_ := yJ (below_step (by repeat (first | (with_reducible first | exact HB.out | apply yF | apply yG | apply yH | refine yI ?_ (IsS46.ge HI0.out) | refine yI ?_ GE152.out) | exact HB.out)) hb); clear BK152; clear HI0; clear HK; clear HB; have HO184 := n0_; have BK152 := n1_; have HI0 := n2_; have HK := n3_; have HB := n4_; clear n0_ n1_ n2_ n3_ n4_; clear hb ho49) | ((with_reducible refine gate_callee (f := 90) rfl ?_); refine goesL_ (some 44) rfl rfl Tryd.func90 (by kernel_rfl) rfl #[.pointer (some ⟨g, 0, none⟩), .int .i64 3] rfl (by (try simp only [List.map_toArray, List.map_cons, List.map_nil]); first | done | rfl | (simp only [List.length_drop, List.length_take]; rfl)) ?_; (with_reducible refine (fm_Tape_Next.calls g s0_0 x1001_4 3 t185 t186 w0 _ ?side1 ?side2 A44.out).mono ?_); (case side1 => repeat (first | (with_reducible first | exact HI0.out | apply IsS46.alloc | apply IsS46.drewN | apply IsS46.drew | apply IsS46.set_1 | refine IsS46.far ?_ NB0_152.out _) | exact HI0.out)); (case side2 => repeat (first | (with_reducible first | exact HB.out | apply yF | apply yG | apply yH | refine yI ?_ (IsS46.ge HI0.out) | refine yI ?_ GE152.out) | exact HB.out)); rintro e w50 ⟨rfl, hi, hb, hk⟩; refine ⟨_, rfl, ?_⟩; have n0_ := yJ (KeepBut.blk hk (g' := gb152) (o := .cells #[.int .i64 0, .string (⟨#[]⟩ : ByteArray), .int .i64 0, .slice none 0 0] 25 (0, 0)) (pk BK152.out) NB152_0.out (by simp)); have n1_ := yJ (Kd.R_mono (Kd.R_keep (IsS46.apart (show IsS46 w0 _ g s0_0 x1001_4 from by repeat (first | (with_reducible first | exact HI0.out | apply IsS46.alloc | apply IsS46.drewN | apply IsS46.drew | apply IsS46.set_1 | refine IsS46.far ?_ NB0_152.out _) | exact HI0.out)) (by (with_reducible repeat (first | apply Kd.R_alloc | apply Kd.R_drewN | apply Kd.R_drew)); exact HO184.out) (by decide)) hk (fun _ h => h.2)) (fun _ h => h.1)); have n2_ := yJ (KeepBut.trans (by repeat (first | (with_reducible first | exact HK.out | apply KeepBut.set_ | apply keep_drewN | apply keep_drew | apply keep_alloc | refine keep_far ?_ GW152.out _) | exact HK.out)) hk (.inl rfl)); have n3_ := yJ (hb); have n4_ := yJ (hi); clear BK152; clear HO184; clear HK; clear HB; clear HI0; have BK152 := n0_; have HO184 := n1_; have HK := n2_; have HB := n3_; have HI0 := n4_; clear n0_ n1_ n2_ n3_ n4_; (try clear hb); (try clear hb2); (try clear hk); (try clear hi); obtain ⟨Ao51, co51, eo51⟩ := Kd.R_slice HO184.out; subst eo51; have p187 : 0 ≤ (t185 : Int) := of_decide_eq_true (by first | (with_reducible assumption) | assumption); have q187 : t185 < (y182.length : Int) := of_decide_eq_true (by first | (with_reducible assumption) | assumption); obtain ⟨ad187, e187, hx187_0⟩ := Kd.at_string (Kd.R_reads' HO184.out).2.2 t185 p187 q187; cases e187; replace p187 := eq_true p187; replace q187 := eq_true q187) | ((with_reducible refine gate_dst (N := 10) rfl ?_); refine box_event ?hg (N := 10) ?hd (cs := #[.int .i64 0, .string (⟨#[]⟩ : ByteArray), .int .i64 0, .slice none 0 0]) (t := 25) ?hr ?_; (case hd => rfl); (case hg => rfl); (case hr => first | (go_simp; done) | (go_simp; rfl)); intro gb188 hg w52 hbox hb; have n0_ := yJ (Kd.R_below (by (with_reducible repeat (first | apply Kd.R_alloc | apply Kd.R_drewN | apply Kd.R_drew)); exact HO184.out) hb); have n1_ := yJ (blk_below (g := gb152) (o := .cells #[.int .i64 0, .string (⟨#[]⟩ : ByteArray), .int .i64 0, .slice none 0 0] 25 (0, 0)) (pk BK152.out) hb); have n2_ := yJ (IsS46.below (by repeat (first | (with_reducible first | exact HI0.out | apply IsS46.alloc | apply IsS46.drewN | apply IsS46.drew | apply IsS46.set_1 | refine IsS46.far ?_ NB0_152.out _) | exact HI0.out)) hb); have n3_ := yJ (KeepBut.trans (by repeat (first | (with_reducible first | exact HK.out | apply KeepBut.set_ | apply keep_drewN | apply keep_drew | apply keep_alloc | refine keep_far ?_ GW152.out _) | exact HK.out)) (KeepBut.of_below hb g none) (.inl rfl)); have n4_ := yJ (below_step (by repeat (first | (with_reducible first | exact HB.out | apply yF | apply yG | apply yH | refine yI ?_ (IsS46.ge HI0.out) | refine yI ?_ GE152.out) | exact HB.out)) hb); have n5_ := yJ (hbox); have n6_ := yJ ((by rw [hg]; exact (keep_size (w := w) (g := g) (row := none) (by repeat (first | (with_reducible first | exact HK.out | apply KeepBut.set_ | apply keep_drewN | apply keep_drew | apply keep_alloc | refine keep_far ?_ GW152.out _) | exact HK.out))) : w.heap.size ≤ gb188)); have n7_ := yJ ((Nat.le_trans HW0.out (by rw [hg]; exact (keep_size (w := w) (g := g) (row := none) (by repeat (first | (with_reducible first | exact HK.out | apply KeepBut.set_ | apply keep_drewN | apply keep_drew | apply keep_alloc | refine keep_far ?_ GW152.out _) | exact HK.out))) : w.heap.size ≤ gb188) : w0.heap.size ≤ gb188)); have n8_ := yJ ((by rw [hg]; exact Nat.ne_of_lt (blk_lt (g := gb152) (o := .cells #[.int .i64 0, .string (⟨#[]⟩ : ByteArray), .int .i64 0, .slice none 0 0] 25 (0, 0)) (pk BK152.out)) : gb152 ≠ gb188)); have n9_ := yJ ((by rw [hg]; exact Nat.ne_of_gt (blk_lt (g := gb152) (o := .cells #[.int .i64 0, .string (⟨#[]⟩ : ByteArray), .int .i64 0, .slice none 0 0] 25 (0, 0)) (pk BK152.out)) : gb188 ≠ gb152)); have n10_ := yJ ((by rw [hg]; exact Nat.ne_of_lt (IsS46.lt (show IsS46 w0 _ g s0_0 t186 from by repeat (first | (with_reducible first | exact HI0.out | apply IsS46.alloc | apply IsS46.drewN | apply IsS46.drew | apply IsS46.set_1 | refine IsS46.far ?_ NB0_152.out _) | exact HI0.out))) : g ≠ gb188)); have n11_ := yJ ((by rw [hg]; exact Nat.ne_of_gt (IsS46.lt (show IsS46 w0 _ g s0_0 t186 from by repeat (first | (with_reducible first | exact HI0.out | apply IsS46.alloc | apply IsS46.drewN | apply IsS46.drew | apply IsS46.set_1 | refine IsS46.far ?_ NB0_152.out _) | exact HI0.out))) : gb188 ≠ g)); clear HO184; clear BK152; clear HI0; clear HK; clear HB; have HO184 := n0_; have BK152 := n1_; have HI0 := n2_; have HK := n3_; have HB := n4_; have BK188 := n5_; have GW188 := n6_; have GE188 := n7_; have NB152_188 := n8_; have NB188_152 := n9_; have NB0_188 := n10_; have NB188_0 := n11_; clear n0_ n1_ n2_ n3_ n4_ n5_ n6_ n7_ n8_ n9_ n10_ n11_; clear hb hbox hg; have hnb53 := NB188_152.out; have hnc53 := NB152_188.out; have hnb54 := NB188_0.out; have hnc54 := NB0_188.out; have hcz55_0 : w52.cell? ⟨gb188, 0, none⟩ = some (.int .i64 0) := (yE BK188.out 0).trans rfl; have hcz55_1 : w52.cell? ⟨gb188, 1, none⟩ = some (.string (⟨#[]⟩ : ByteArray)) := (yE BK188.out 1).trans rfl; have hcz55_2 : w52.cell? ⟨gb188, 2, none⟩ = some (.int .i64 0) := (yE BK188.out 2).trans rfl; have hcz55_3 : w52.cell? ⟨gb188, 3, none⟩ = some (.slice none 0 0) := (yE BK188.out 3).trans rfl; have hfz55_0 := yD BK188.out 0; have hfz55_1 := yD BK188.out 1; have hfz55_2 := yD BK188.out 2; have hfz55_3 := yD BK188.out 3) | ((with_reducible refine gate_callee (f := 90) rfl ?_); refine goesL_ (some 49) rfl rfl Tryd.func90 (by kernel_rfl) rfl #[.pointer (some ⟨g, 0, none⟩), .int .i64 3] rfl (by (try simp only [List.map_toArray, List.map_cons, List.map_nil]); first | done | rfl | (simp only [List.length_drop, List.length_take]; rfl)) ?_; (with_reducible refine (fm_Tape_Next.calls g s0_0 t186 3 t189 t190 w0 _ ?side1 ?side2 A47.out).mono ?_); (case side1 => repeat (first | (with_reducible first | exact HI0.out | apply IsS46.alloc | apply IsS46.drewN | apply IsS46.drew | apply IsS46.set_1 | refine IsS46.far ?_ NB0_152.out _ | refine IsS46.far ?_ NB0_188.out _) | exact HI0.out)); (case side2 => repeat (first | (with_reducible first | exact HB.out | apply yF | apply yG | apply yH | refine yI ?_ (IsS46.ge HI0.out) | refine yI ?_ GE152.out | refine yI ?_ GE188.out) | exact HB.out)); rintro e w56 ⟨rfl, hi, hb, hk⟩; refine ⟨_, rfl, ?_⟩; have n0_ := yJ (KeepBut.blk hk (g' := gb152) (o := .cells #[.int .i64 0, .string (⟨#[]⟩ : ByteArray), .int .i64 0, .slice none 0 0] 25 (0, 0)) (pk BK152.out) NB152_0.out (by simp)); have n1_ := yJ (Kd.R_mono (Kd.R_keep (IsS46.apart (show IsS46 w0 _ g s0_0 t186 from by repeat (first | (with_reducible first | exact HI0.out | apply IsS46.alloc | apply IsS46.drewN | apply IsS46.drew | apply IsS46.set_1 | refine IsS46.far ?_ NB0_152.out _ | refine IsS46.far ?_ NB0_188.out _) | exact HI0.out)) (by (with_reducible repeat (first | apply Kd.R_alloc | apply Kd.R_drewN | apply Kd.R_drew)); exact (Kd.R_mono (Kd.R_far (p := ⟨gb188, 3, none⟩) (Kd.R_far (p := ⟨gb188, 2, none⟩) (Kd.R_far (p := ⟨gb188, 1, none⟩) (Kd.R_far (p := ⟨gb188, 0, none⟩) (Kd.R_types HO184.out BK188.out (by decide)) (fun _ hk => hk.2) (.int .i64 4)) (fun _ hk => hk.2) (.string (rdOf ByteArray.empty y182 t185))) (fun _ hk => hk.2) (.int .i64 0)) (fun _ hk => hk.2) (.slice none 0 0)) (fun _ h_ => h_.1))) (by decide)) hk (fun _ h => h.2)) (fun _ h => h.1)); have n2_ := yJ (KeepBut.blk hk (g' := gb188) (o := .cells #[.int .i64 4, .string (rdOf ByteArray.empty y182 t185), .int .i64 0, .slice none 0 0] 25 (0, 0)) (by (with_reducible repeat (first | refine yA ?_ _ | refine yB ?_ | refine yC ?_ _)); refine blk_put (cs := #[.int .i64 4, .string (rdOf ByteArray.empty y182 t185), .int .i64 0, .slice none 0 0]) ?_ 3 _ rfl; (with_reducible repeat (first | refine yA ?_ _ | refine yB ?_ | refine yC ?_ _)); refine blk_put (cs := #[.int .i64 4, .string (rdOf ByteArray.empty y182 t185), .int .i64 0, .slice none 0 0]) ?_ 2 _ rfl; (with_reducible repeat (first | refine yA ?_ _ | refine yB ?_ | refine yC ?_ _)); refine blk_put (cs := #[.int .i64 4, .string (⟨#[]⟩ : ByteArray), .int .i64 0, .slice none 0 0]) ?_ 1 _ rfl; (with_reducible repeat (first | refine yA ?_ _ | refine yB ?_ | refine yC ?_ _)); refine blk_put (cs := #[.int .i64 0, .string (⟨#[]⟩ : ByteArray), .int .i64 0, .slice none 0 0]) ?_ 0 _ rfl; (with_reducible repeat (first | refine yA ?_ _ | refine yB ?_ | refine yC ?_ _)); exact BK188.out) NB188_0.out (by simp)); have n3_ := yJ (KeepBut.trans (by repeat (first | (with_reducible first | exact HK.out | apply KeepBut.set_ | apply keep_drewN | apply keep_drew | apply keep_alloc | refine keep_far ?_ GW152.out _ | refine keep_far ?_ GW188.out _) | exact HK.out)) hk (.inl rfl)); have n4_ := yJ (hb); have n5_ := yJ (hi); clear BK152; clear HO184; clear BK188; clear HK; clear HB; clear HI0; have BK152 := n0_; have HO184 := n1_; have BK188 := n2_; have HK := n3_; have HB := n4_; have HI0 := n5_; clear n0_ n1_ n2_ n3_ n4_ n5_; (try clear hb); (try clear hb2); (try clear hk); (try clear hi)))
      go_loopg [11] kj4 (fun kq v11 w' => ∃ (x11_2 : Int) (x1001_2 : Int) (x189003_2 : List (S25)) (u189003 : Value), v11 = .int .i64 x11_2 ∧ Aside0 (fm_Type.l0 kq a1 a2 a3 x11_2 s0_0 x1001_2 4 (rdOf ByteArray.empty y182 t185) 0 x189003_2 = some (r1, r2, r3, r4, r5)) ∧ Aside0 (kq ≤ kj4) ∧ Aside0 (Kd.N k25 25 w' w.heap.size (fun k_ => (w.heap.size ≤ k_) ∧ k_ ≠ gb152 ∧ k_ ≠ gb188 ∧ k_ ≠ g) u189003 x189003_2) ∧ Aside0 (w'.heap[gb152]? = some (.cells #[.int .i64 0, .string (⟨#[]⟩ : ByteArray), .int .i64 0, (.slice none 0 0)] 25 (0, 0))) ∧ Aside0 (w'.heap[gb188]? = some (.cells #[.int .i64 4, .string (rdOf ByteArray.empty y182 t185), .int .i64 0, u189003] 25 (0, 0))) ∧ Aside0 (IsS46 w0 w' g s0_0 x1001_2) ∧ Aside0 (KeepBut w w' g none) ∧ Aside0 (Below w0.heap.size w0 w'))
      case atStart => exact ⟨(t189), (t190), (([] : List (S25))), (.slice none 0 0), (by first | rfl | (simp; done) | (simp [*]; done)), H', ⟨Nat.le_refl _⟩, ⟨by first | exact Kd.R_nil _ _ _ _ _ | exact Kd.N_nil _ _ _ _ _ | exact Kd.V_nil _ _ _ _ _ | exact Kd.Q_nil _ _ _ _ _ | exact Kd.S_nil _ _ _ _ _⟩, ⟨pk BK152.out⟩, ⟨pk BK188.out⟩, ⟨by repeat (first | (with_reducible first | exact HI0.out | apply IsS46.alloc | apply IsS46.drewN | apply IsS46.drew | apply IsS46.set_1 | refine IsS46.far ?_ NB0_152.out _ | refine IsS46.far ?_ NB0_188.out _) | exact HI0.out)⟩, ⟨by repeat (first | (with_reducible first | exact HK.out | apply KeepBut.set_ | apply keep_drewN | apply keep_drew | apply keep_alloc | refine keep_far ?_ GW152.out _ | refine keep_far ?_ GW188.out _) | exact HK.out)⟩, ⟨by repeat (first | (with_reducible first | exact HB.out | apply yF | apply yG | apply yH | refine yI ?_ (IsS46.ge HI0.out) | refine yI ?_ GE152.out | refine yI ?_ GE188.out) | exact HB.out)⟩⟩
      case round =>
       clear H'
       try clear c1
       try clear p1
       try clear q1
       try clear hx1
       try clear qi1
       try clear c2
       try clear p2
       try clear c3
       try clear c4
       try clear c5
       try clear p6
       try clear c9
       try clear c10
       try clear c13
       try clear c14
       try clear qi17
       try clear c18
       try clear p18
       try clear q18
       try clear hx18
       try clear c19
       try clear c45
       try clear c45b0
       try clear c46
       try clear c46b0
       try clear c53
       try clear c54
       try clear hcz20_0
       try clear hcz20_1
       try clear hcz20_2
       try clear hcz20_3
       try clear hcz55_0
       try clear hcz55_1
       try clear hcz55_2
       try clear hcz55_3
       try clear hfz20_0
       try clear hfz20_1
       try clear hfz20_2
       try clear hfz20_3
       try clear hfz55_0
       try clear hfz55_1
       try clear hfz55_2
       try clear hfz55_3
       try clear hx187_0
       try clear p187
       try clear q187
       obtain ⟨x11_2, x1001_2, x189003_2, u189003, rfl, HA, HK2, HO_189003, BK152, BK188, HI0, HK, HB⟩ := hrel
       cases gk with
       | zero => exact absurd HA.out (by simp [fm_Type.l0])
       | succ k2 =>
        have H := HA.out;clear HA
        simp only [fm_Type.l0] at H
        by_cases c57 : x11_2 > 0
        ·rw [if_pos c57] at H
         have c57b0 : decide (0 < x11_2) = true := decide_eq_true c57
         clear c57
         by_cases c58 : a1 > 0
         ·rw [if_pos c58] at H
          have c58b0 : decide (0 < a1) = true := decide_eq_true c58
          clear c58;replace H := yK H
          obtain ⟨⟨t191, t192, t193, t194, t197⟩, A590, H⟩ := H
          replace H : (if x189003_2.length < 2513169434916 then (fm_Type.l0 k2 a1 a2 a3 (wrap64 (x11_2 - 1)) s0_0 t197 4 (rdOf ByteArray.empty y182 t185) 0 (x189003_2 ++ [(⟨t191, t192, t193, t194⟩ : S25)])) else (none)) = some (r1, r2, r3, r4, r5) := H
          have A59 := yJ A590;clear A590
          by_cases c60 : x189003_2.length < 2513169434916
          ·rw [if_pos c60] at H
           have LMc60 := yJ c60;clear c60
           obtain ⟨y198, hy198⟩ : ∃ y_ : List (S25), y_ = (x189003_2 ++ [(⟨t191, t192, t193, t194⟩ : S25)]) := ⟨_, rfl⟩
           replace H : (fm_Type.l0 k2 a1 a2 a3 (wrap64 (x11_2 - 1)) s0_0 t197 4 (rdOf ByteArray.empty y182 t185) 0 y198) = some (r1, r2, r3, r4, r5) := by first | (rw [hy198]; with_reducible exact H) | (have H2_ := (Option.bind_some _ _).symm.trans H; rw [hy198]; with_reducible exact H2_) | (have H2_ := (Option.bind_some _ _).symm.trans H; with_reducible exact H2_) | with_reducible exact H | (rw [hy198]; exact H) | exact H
           have Ny198 := yJ hy198;clear hy198
           have H' := yJ H
           clear H
           try go_wp2
           have n0_ := yJ (Kd.N_drew HO_189003.out)
           have n1_ := yJ (yB BK152.out)
           have n2_ := yJ (yB BK188.out)
           have n3_ := yJ (IsS46.drew HI0.out)
           have n4_ := yJ (keep_drew HK.out)
           have n5_ := yJ (yH HB.out)
           clear HO_189003 BK152 BK188 HI0 HK HB;have HO_189003 := n0_;have BK152 := n1_;have BK188 := n2_;have HI0 := n3_;have HK := n4_;have HB := n5_;clear n0_ n1_ n2_ n3_ n4_ n5_
           refine start_ (n := 12) (S := fun w' => w'.cell? ⟨gb188, 0, none⟩ = some (.int .i64 4) ∧ w'.cell? ⟨gb188, 1, none⟩ = some (.string (rdOf ByteArray.empty y182 t185)) ∧ w'.cell? ⟨gb188, 2, none⟩ = some (.int .i64 0) ∧ w'.cell? ⟨gb188, 3, none⟩ = some (u189003)) (ds := [11]) #[false, false, false, false, false, false, false, false, false, false, false, false] (by kernel_rfl) rfl rfl ⟨(yE BK188.out 0).trans rfl, (yE BK188.out 1).trans rfl, (yE BK188.out 2).trans rfl, (yE BK188.out 3).trans rfl⟩ (fun hHeld => ?_); refine with_tabW fm_Type.tab8 fm_Type.bits8 (fun HT_ HW_ => ?_)
           generalize wr.drew = w61 at HO_189003 BK152 BK188 HI0 HK HB hHeld ⊢
           refine pure_ (i := 0) (N := some 58) (v := ?_) (a' := ?_) #[true, false, false, false, false, false, false, false, false, false, false, false] rfl rfl (any_of HT_.out (by kernel_rfl)) (fun _ _ _ h => h) (Or.inl ⟨by rfl, ?_⟩) ?_ ?_
           rotate_left
           ·intro w'
            go_simp;with_reducible rfl
           rotate_left
           ·simp only [Act.put, List.setIfInBounds_toArray, List.set_cons_zero, List.set_cons_succ, i64_w, i32_w]
            rfl
           refine pure_ (i := 2) (N := some 60) (v := ?_) (a' := ?_) #[true, false, true, false, false, false, false, false, false, false, false, false] rfl rfl (any_of HT_.out (by kernel_rfl)) (fun _ _ _ h => h) (Or.inl ⟨by rfl, ?_⟩) ?_ ?_
           rotate_left
           ·intro w'
            go_simp;with_reducible rfl
           rotate_left
           ·simp only [Act.put, List.setIfInBounds_toArray, List.set_cons_zero, List.set_cons_succ, i64_w, i32_w]
            rfl
           refine pure_ (i := 3) (N := some 61) (v := ?_) (a' := ?_) #[true, false, true, true, false, false, false, false, false, false, false, false] rfl rfl (any_of HT_.out (by kernel_rfl)) (fun _ _ _ h => h) (Or.inl ⟨by rfl, ?_⟩) ?_ ?_
           rotate_left
           ·intro w'
            go_simp;with_reducible rfl
           rotate_left
           ·simp only [Act.put, List.setIfInBounds_toArray, List.set_cons_zero, List.set_cons_succ, i64_w, i32_w]
            rfl
           refine pure_ (i := 4) (N := some 62) (v := ?_) (a' := ?_) #[true, false, true, true, true, false, false, false, false, false, false, false] rfl rfl (any_of HT_.out (by kernel_rfl)) (fun _ _ _ h => h) (Or.inl ⟨by rfl, ?_⟩) ?_ ?_
           rotate_left
           ·intro w'
            go_simp;with_reducible rfl
           rotate_left
           ·simp only [Act.put, List.setIfInBounds_toArray, List.set_cons_zero, List.set_cons_succ, i64_w, i32_w]
            rfl
           refine pure_ (i := 5) (N := some 63) (v := ?_) (a' := ?_) #[true, false, true, true, true, true, false, false, false, false, false, false] rfl rfl (any_of HT_.out (by kernel_rfl)) (fun _ _ _ h => h) (Or.inl ⟨by rfl, ?_⟩) ?_ ?_
           rotate_left
           ·intro w'
            go_simp;with_reducible rfl
           rotate_left
           ·simp only [Act.put, List.setIfInBounds_toArray, List.set_cons_zero, List.set_cons_succ, i64_w, i32_w]
            rfl
           refine pure_ (i := 6) (N := some 64) (v := ?_) (a' := ?_) #[true, false, true, true, true, true, true, false, false, false, false, false] rfl rfl (any_of HT_.out (by kernel_rfl)) (fun _ _ _ h => h) (Or.inl ⟨by rfl, ?_⟩) ?_ ?_
           rotate_left
           ·intro w'
            go_simp;with_reducible rfl
           rotate_left
           ·simp only [Act.put, List.setIfInBounds_toArray, List.set_cons_zero, List.set_cons_succ, i64_w, i32_w]
            rfl
           refine take_ (i := 1) (N := some 59) (v := ?_) (a' := ?_) #[true, true, true, true, true, true, true, false, false, false, false, false] rfl rfl (take_ofW HT_.out HW_.out (by kernel_rfl)) (fun _ _ _ h => h) (Or.inl ⟨by rfl, ?_⟩) hHeld ?_ ?_
           rotate_left
           ·rintro w' ⟨s0, s1, s2, s3⟩
            go_simp;with_reducible rfl
           rotate_left
           ·simp only [Act.put, List.setIfInBounds_toArray, List.set_cons_zero, List.set_cons_succ, i64_w, i32_w]
            rfl
           refine one_ (i := 7) (N := some 65) #[true, true, true, true, true, true, true, true, false, false, false, false] rfl rfl (one_of HT_.out (by kernel_rfl)) (by decide) (fun K hK => ?_)
           refine goes_ Tryd.func45 (by kernel_rfl) rfl #[.pointer (some ⟨g, 0, none⟩), .int .i64 (wrap64 (a1 - 1)), .int .i64 a2, .int .i64 a3] (by rfl) rfl rfl (by (try simp only [List.map_toArray, List.map_cons, List.map_nil]); first | done | rfl | (simp only [List.length_drop, List.length_take]; rfl)) ?_
           with_reducible refine (fm_Term.calls k2 g s0_0 x1001_2 (wrap64 (a1 - 1)) a2 a3 t191 t192 t193 t194 t197 w0 _ ?side1 ?side2 A59.out HNL.out).mono ?_
           (case side1 => repeat (first | (with_reducible first | exact HI0.out | apply IsS46.alloc | apply IsS46.drewN | apply IsS46.drew | apply IsS46.set_1 | refine IsS46.far ?_ NB0_152.out _ | refine IsS46.far ?_ NB0_188.out _) | exact HI0.out))
           (case side2 => repeat (first | (with_reducible first | exact HB.out | apply yF | apply yG | apply yH | refine yI ?_ (IsS46.ge HI0.out) | refine yI ?_ GE152.out | refine yI ?_ GE188.out) | exact HB.out))
           rintro e w62 ⟨v195, rfl, ho0, hi, hb, hk⟩
           refine ⟨_, rfl, ?_⟩
           have n0_ := yJ (Kd.N_mono (Kd.N_told (Kd.N_oldK (Kd.N_mono (ok := fun k_ => (((w.heap.size ≤ k_)) ∧ (k_ ≠ gb152 ∧ (k_ ≠ gb188 ∧ k_ ≠ g)))) (by (with_reducible repeat (first | apply Kd.N_alloc | apply Kd.N_drewN | apply Kd.N_drew)); exact HO_189003.out) (fun k_ hk_ => (⟨hk_, hk_.2.2.2⟩ : _ ∧ k_ ≠ g))) hk) (Kd.N_base ho0)) (fun _ h_ => h_.1))
           have n1_ := yJ (KeepBut.blk hk (g' := gb152) (o := .cells #[.int .i64 0, .string (⟨#[]⟩ : ByteArray), .int .i64 0, .slice none 0 0] 25 (0, 0)) (pk BK152.out) NB152_0.out (by simp))
           have n2_ := yJ (KeepBut.blk hk (g' := gb188) (o := .cells #[.int .i64 4, .string (rdOf ByteArray.empty y182 t185), .int .i64 0, u189003] 25 (0, 0)) (pk BK188.out) NB188_0.out (by simp))
           have n3_ := yJ (Kd.N_lower (Kd.N_mono (ok' := fun k_ => (w.heap.size ≤ k_) ∧ some k_ ≠ (u189003 : Value).ownBlock ∧ k_ ≠ gb152 ∧ k_ ≠ gb188 ∧ k_ ≠ g) ho0 (fun k_ hk_ => ⟨(Nat.le_trans (keep_size (w := w) (g := g) (row := none) (by repeat (first | (with_reducible first | exact HK.out | apply KeepBut.set_ | apply keep_drewN | apply keep_drew | apply keep_alloc | refine keep_far ?_ GW152.out _ | refine keep_far ?_ GW188.out _) | exact HK.out))) hk_), (Kd.fresh' (Kd.N_lt (by (with_reducible repeat (first | apply Kd.N_alloc | apply Kd.N_drewN | apply Kd.N_drew)); exact HO_189003.out)) k_ hk_), (Kd.freshB (g := gb152) (o := .cells #[.int .i64 0, .string (⟨#[]⟩ : ByteArray), .int .i64 0, .slice none 0 0] 25 (0, 0)) (pk BK152.out) k_ hk_), (Kd.freshB (g := gb188) (o := .cells #[.int .i64 4, .string (rdOf ByteArray.empty y182 t185), .int .i64 0, u189003] 25 (0, 0)) (pk BK188.out) k_ hk_), (IsS46.fresh (by repeat (first | (with_reducible first | exact HI0.out | apply IsS46.alloc | apply IsS46.drewN | apply IsS46.drew | apply IsS46.set_1 | refine IsS46.far ?_ NB0_152.out _ | refine IsS46.far ?_ NB0_188.out _) | exact HI0.out)) k_ hk_)⟩)) (keep_size (w := w) (g := g) (row := none) (by repeat (first | (with_reducible first | exact HK.out | apply KeepBut.set_ | apply keep_drewN | apply keep_drew | apply keep_alloc | refine keep_far ?_ GW152.out _ | refine keep_far ?_ GW188.out _) | exact HK.out))))
           have n4_ := yJ (KeepBut.trans (by repeat (first | (with_reducible first | exact HK.out | apply KeepBut.set_ | apply keep_drewN | apply keep_drew | apply keep_alloc | refine keep_far ?_ GW152.out _ | refine keep_far ?_ GW188.out _) | exact HK.out)) hk (.inl rfl))
           have n5_ := yJ (hb)
           have n6_ := yJ (hi)
           clear HO_189003 BK152 BK188 HK HB HI0;have HO_189003 := n0_;have BK152 := n1_;have BK188 := n2_;have HO196 := n3_;have HK := n4_;have HB := n5_;have HI0 := n6_;clear n0_ n1_ n2_ n3_ n4_ n5_ n6_;(try clear hb);(try clear hb2);(try clear hk);(try clear hi);(try clear ho0)
           obtain ⟨Ao64, co64, eo64⟩ := Kd.N_slice HO196.out
           (first | subst eo64 | (injection eo64 with f1_ f2_ f3_; have f4_ := f1_.symm; have f5_ := f3_.symm; clear f1_ f2_ f3_; subst f4_; subst f5_))
           refine hK.out _ _ ⟨(yE BK188.out 0).trans rfl, (yE BK188.out 1).trans rfl, (yE BK188.out 2).trans rfl, (yE BK188.out 3).trans rfl⟩ (fun hHeld => ?_)
           clear hK K
           refine norm_ (a' := ?_) ?_ ?_
           rotate_left
           ·show Act.put _ (some 65) _ = _
            simp only [Act.put, List.setIfInBounds_toArray, List.set_cons_zero, List.set_cons_succ, i64_w, i32_w]
            rfl
           refine one_ (i := 8) (N := some 66) #[true, true, true, true, true, true, true, true, true, false, false, false] rfl rfl (one_of HT_.out (by kernel_rfl)) (by decide) (fun K hK => ?_)
           refine value_ (w1 := ?_) (v := ?_) (by rfl) rfl ?_ ?_
           rotate_left 2
           ·go_simp
            constructor
            ·rfl
            ·rfl
           refine hK.out _ _ ⟨(yE (yC BK188.out _) 0).trans rfl, (yE (yC BK188.out _) 1).trans rfl, (yE (yC BK188.out _) 2).trans rfl, (yE (yC BK188.out _) 3).trans rfl⟩ (fun hHeld => ?_)
           clear hK K
           refine norm_ (a' := ?_) ?_ ?_
           rotate_left
           ·show Act.put _ (some 66) _ = _
            simp only [Act.put, List.setIfInBounds_toArray, List.set_cons_zero, List.set_cons_succ, i64_w, i32_w]
            rfl
           refine one_ (i := 9) (N := some 67) #[true, true, true, true, true, true, true, true, true, true, false, false] rfl rfl (one_of HT_.out (by kernel_rfl)) (by decide) (fun K hK => ?_)
           refine Kd.N_append_step k25 w.heap.size (by rfl) (.tmp 59) (.tmp 66) 23 25 (.agg #[(.int .i64 0), (.string ⟨#[]⟩), (.int .i64 0), (.slice none 0 0)]) 56 rfl Tryd.underlying23 info25 rfl (by decide) (by omega) u189003 x189003_2 (⟨t191, t192, t193, t194⟩ : S25) [.int .i64 t191, .string t192, .int .i64 t193, .slice Ao64 t194.length co64] (fun k_ => (w.heap.size ≤ k_) ∧ k_ ≠ gb152 ∧ k_ ≠ gb188 ∧ k_ ≠ g) (fun k_ => ((fun k_ => (w.heap.size ≤ k_) ∧ k_ ≠ gb152 ∧ k_ ≠ gb188 ∧ k_ ≠ g)) k_ ∧ some k_ ≠ (u189003 : Value).ownBlock) rfl rfl ?aP (fun _ hk => hk) ?aF ?aO (Below.refl _ _) ?aS ?aL ?_
           (case aP => exact (k25_mkF _ _ (⟨t191, t192, t193, t194⟩ : S25) (Kd.N_reads' (Kd.N_mono (ok' := (fun k_ => ((fun k_ => (w.heap.size ≤ k_) ∧ k_ ≠ gb152 ∧ k_ ≠ gb188 ∧ k_ ≠ g)) k_ ∧ some k_ ≠ (u189003 : Value).ownBlock)) (HO196.out) (fun k_ hk => ⟨⟨hk.1, ⟨hk.2.2.1, ⟨hk.2.2.2.1, hk.2.2.2.2⟩⟩⟩, hk.2.1⟩))).2.1 (Kd.N_F (Kd.N_mono (ok' := (fun k_ => ((fun k_ => (w.heap.size ≤ k_) ∧ k_ ≠ gb152 ∧ k_ ≠ gb188 ∧ k_ ≠ g)) k_ ∧ some k_ ≠ (u189003 : Value).ownBlock)) (HO196.out) (fun k_ hk => ⟨⟨hk.1, ⟨hk.2.2.1, ⟨hk.2.2.2.1, hk.2.2.2.2⟩⟩⟩, hk.2.1⟩)))))
           (case aF => exact (fun k_ hk => ⟨(Nat.le_trans (keep_size (w := w) (g := g) (row := none) (by repeat (first | (with_reducible first | exact HK.out | apply KeepBut.set_ | apply keep_drewN | apply keep_drew | apply keep_alloc | refine keep_far ?_ GW152.out _ | refine keep_far ?_ GW188.out _) | exact HK.out))) hk), Kd.freshB (g := gb152) (o := .cells #[.int .i64 0, .string (⟨#[]⟩ : ByteArray), .int .i64 0, .slice none 0 0] 25 (0, 0)) (pk BK152.out) k_ hk, Kd.freshB (g := gb188) (o := .cells #[.int .i64 4, .string (rdOf ByteArray.empty y182 t185), .int .i64 0, u189003] 25 (0, 0)) (pk BK188.out) k_ hk, IsS46.fresh (by repeat (first | (with_reducible first | exact HI0.out | apply IsS46.alloc | apply IsS46.drewN | apply IsS46.drew | apply IsS46.set_1 | refine IsS46.far ?_ NB0_152.out _ | refine IsS46.far ?_ NB0_188.out _) | exact HI0.out)) k_ hk⟩))
           (case aO => exact (by (with_reducible repeat (first | apply Kd.N_alloc | apply Kd.N_drewN | apply Kd.N_drew)); exact Kd.N_mono HO_189003.out (fun _ hk => ⟨hk.1.1, ⟨hk.1.2.1, ⟨hk.1.2.2.1, hk.1.2.2.2⟩⟩⟩)))
           (case aS => exact (keep_size (w := w) (g := g) (row := none) (by repeat (first | (with_reducible first | exact HK.out | apply KeepBut.set_ | apply keep_drewN | apply keep_drew | apply keep_alloc | refine keep_far ?_ GW152.out _ | refine keep_far ?_ GW188.out _) | exact HK.out))))
           (case aL => have := LMc60.out; omega)
           intro v199 w63 ho hb hg hat
           rw [← Ny198.out] at ho
           have n0_ := yJ (blk_grown (g := gb152) (o := .cells #[.int .i64 0, .string (⟨#[]⟩ : ByteArray), .int .i64 0, .slice none 0 0] 25 (0, 0)) (pk BK152.out) hg (Kd.N_away HO_189003.out (fun _ hk => hk.1.2.1)))
           have n1_ := yJ (blk_grown (g := gb188) (o := .cells #[.int .i64 4, .string (rdOf ByteArray.empty y182 t185), .int .i64 0, u189003] 25 (0, 0)) (pk BK188.out) hg (Kd.N_away HO_189003.out (fun _ hk => hk.1.2.2.1)))
           have n2_ := yJ (IsS46.grown (by repeat (first | (with_reducible first | exact HI0.out | apply IsS46.alloc | apply IsS46.drewN | apply IsS46.drew | apply IsS46.set_1 | refine IsS46.far ?_ NB0_152.out _ | refine IsS46.far ?_ NB0_188.out _) | exact HI0.out)) hg (IsS46.own_neN HI0.out HO_189003.out (by decide)))
           have n3_ := yJ (below_weaken (by repeat (first | (with_reducible first | exact HB.out | apply yF | apply yG | apply yH | refine yI ?_ (IsS46.ge HI0.out) | refine yI ?_ GE152.out | refine yI ?_ GE188.out) | exact HB.out)) HL.out hb)
           have n4_ := yJ (KeepBut.trans (by repeat (first | (with_reducible first | exact HK.out | apply KeepBut.set_ | apply keep_drewN | apply keep_drew | apply keep_alloc | refine keep_far ?_ GW152.out _ | refine keep_far ?_ GW188.out _) | exact HK.out)) (KeepBut.of_grown hg g) (Kd.N_base2 HO_189003.out))
           have n5_ := yJ (ho)
           clear BK152 BK188 HI0 HB HK HO_189003 HO196;have BK152 := n0_;have BK188 := n1_;have HI0 := n2_;have HB := n3_;have HK := n4_;have HO200 := n5_;clear n0_ n1_ n2_ n3_ n4_ n5_ ho hb hg hat
           obtain ⟨Ao65, co65, eo65⟩ := Kd.N_slice HO200.out
           (first | subst eo65 | (injection eo65 with f1_ f2_ f3_; have f4_ := f1_.symm; have f5_ := f3_.symm; clear f1_ f2_ f3_; subst f4_; subst f5_))
           refine hK.out _ _ ⟨(yE BK188.out 0).trans rfl, (yE BK188.out 1).trans rfl, (yE BK188.out 2).trans rfl, (yE BK188.out 3).trans rfl⟩ (fun hHeld => ?_)
           clear hK K
           refine norm_ (a' := ?_) ?_ ?_
           rotate_left
           ·show Act.put _ (some 67) _ = _
            simp only [Act.put, List.setIfInBounds_toArray, List.set_cons_zero, List.set_cons_succ, i64_w, i32_w]
            rfl
           refine pure_ (i := 10) (N := some 68) (v := ?_) (a' := ?_) #[true, true, true, true, true, true, true, true, true, true, true, false] rfl rfl (any_of HT_.out (by kernel_rfl)) (fun _ _ _ h => h) (Or.inl ⟨by rfl, ?_⟩) ?_ ?_
           rotate_left
           ·intro w'
            go_simp;with_reducible rfl
           rotate_left
           ·simp only [Act.put, List.setIfInBounds_toArray, List.set_cons_zero, List.set_cons_succ, i64_w, i32_w]
            rfl
           refine last_ (i := 11) (N := none) #[true, true, true, true, true, true, true, true, true, true, true, true] rfl rfl (one_of HT_.out (by kernel_rfl)) (by decide) (fun K hK => ?_)
           have hs66 : w63.cell? ⟨gb188, 3, none⟩ = some (u189003) := (yE BK188.out 3).trans rfl
           have hfs66 := yD BK188.out 3
           have hns66_0 := NB152_188.out;have hms66_0 := NB188_152.out
           refine skip_ (w1 := ?_) (by rfl) rfl ?_ ?_
           rotate_left
           ·go_simp
            rfl
           refine hK.out _ _ ?_
           clear hK K
           refine done_ (done_of HT_.out (by kernel_rfl)) ?_
           try go_wp2
           go_roundg k2
           case measure => have := HJ4.out; have := HK2.out; omega
           case rel => exact ⟨(wrap64 (x11_2 - 1)), (t197), (y198), (.slice Ao65 y198.length co65), (by first | rfl | (simp; done) | (simp [*]; done)), H', ⟨by have := HJ4.out; have := HK2.out; omega⟩, ⟨by (with_reducible repeat (first | apply Kd.N_alloc | apply Kd.N_drewN | apply Kd.N_drew)); exact Kd.N_mono (Kd.N_far (p := ⟨gb188, 3, none⟩) (Kd.N_mono HO200.out (fun k_ hk => (⟨hk, hk.2.2.1⟩ : _ ∧ k_ ≠ gb188))) (fun _ hk => hk.2) (.slice Ao65 y198.length co65)) (fun _ hk => ⟨hk.1.1, ⟨hk.1.2.1, ⟨hk.1.2.2.1, hk.1.2.2.2⟩⟩⟩)⟩, ⟨pk BK152.out⟩, ⟨by (with_reducible repeat (first | refine yA ?_ _ | refine yB ?_ | refine yC ?_ _)); refine blk_put (cs := #[.int .i64 4, .string (rdOf ByteArray.empty y182 t185), .int .i64 0, u189003]) ?_ 3 _ rfl; (with_reducible repeat (first | refine yA ?_ _ | refine yB ?_ | refine yC ?_ _)); exact BK188.out⟩, ⟨by repeat (first | (with_reducible first | exact HI0.out | apply IsS46.alloc | apply IsS46.drewN | apply IsS46.drew | apply IsS46.set_1 | refine IsS46.far ?_ NB0_152.out _ | refine IsS46.far ?_ NB0_188.out _) | exact HI0.out)⟩, ⟨by repeat (first | (with_reducible first | exact HK.out | apply KeepBut.set_ | apply keep_drewN | apply keep_drew | apply keep_alloc | refine keep_far ?_ GW152.out _ | refine keep_far ?_ GW188.out _) | exact HK.out)⟩, ⟨by repeat (first | (with_reducible first | exact HB.out | apply yF | apply yG | apply yH | refine yI ?_ (IsS46.ge HI0.out) | refine yI ?_ GE152.out | refine yI ?_ GE188.out) | exact HB.out)⟩⟩
          ·rw [if_neg c60] at H
           exact absurd H (by simp)
         ·rw [if_neg c58] at H
          have c58b0 : decide (0 < a1) = false := decide_eq_false c58
          clear c58
          simp only [Option.some.injEq, Prod.mk.injEq] at H
          obtain ⟨rfl, rfl, rfl, rfl, rfl⟩ := H;have hnb67 := NB188_152.out;have hnc67 := NB152_188.out;have hnb68 := NB188_0.out;have hnc68 := NB0_188.out
          have hcz69_0 : wr.cell? ⟨gb188, 0, none⟩ = some (.int .i64 4) := (yE BK188.out 0).trans rfl
          have hcz69_1 : wr.cell? ⟨gb188, 1, none⟩ = some (.string (rdOf ByteArray.empty y182 t185)) := (yE BK188.out 1).trans rfl
          have hcz69_2 : wr.cell? ⟨gb188, 2, none⟩ = some (.int .i64 0) := (yE BK188.out 2).trans rfl
          have hcz69_3 : wr.cell? ⟨gb188, 3, none⟩ = some (u189003) := (yE BK188.out 3).trans rfl
          have hfz69_0 := yD BK188.out 0
          have hfz69_1 := yD BK188.out 1
          have hfz69_2 := yD BK188.out 2
          have hfz69_3 := yD BK188.out 3
          have hnb70 := NB152_0.out;have hnc70 := NB0_152.out
          have hcz71_0 : wr.cell? ⟨gb152, 0, none⟩ = some (.int .i64 0) := (yE BK152.out 0).trans rfl
          have hcz71_1 : wr.cell? ⟨gb152, 1, none⟩ = some (.string (⟨#[]⟩ : ByteArray)) := (yE BK152.out 1).trans rfl
          have hcz71_2 : wr.cell? ⟨gb152, 2, none⟩ = some (.int .i64 0) := (yE BK152.out 2).trans rfl
          have hcz71_3 : wr.cell? ⟨gb152, 3, none⟩ = some (.slice none 0 0) := (yE BK152.out 3).trans rfl
          have hfz71_0 := yD BK152.out 0
          have hfz71_1 := yD BK152.out 1
          have hfz71_2 := yD BK152.out 2
          have hfz71_3 := yD BK152.out 3
          obtain ⟨Ao72, co72, eo72⟩ := Kd.N_slice HO_189003.out
          subst eo72
          go_wp2
          refine bodyPost_ret (results_cell_row rfl _ _ gb152 25 #[.int .i64 4, .string (rdOf ByteArray.empty y182 t185), .int .i64 0, .slice Ao72 x189003_2.length co72] (0, 0) _ rfl (by (with_reducible repeat (first | refine yA ?_ _ | refine yB ?_ | refine yC ?_ _)); refine blk_put (cs := #[.int .i64 4, .string (rdOf ByteArray.empty y182 t185), .int .i64 0, .slice none 0 0]) ?_ 3 _ rfl; (with_reducible repeat (first | refine yA ?_ _ | refine yB ?_ | refine yC ?_ _)); refine blk_put (cs := #[.int .i64 4, .string (rdOf ByteArray.empty y182 t185), .int .i64 0, .slice none 0 0]) ?_ 2 _ rfl; (with_reducible repeat (first | refine yA ?_ _ | refine yB ?_ | refine yC ?_ _)); refine blk_put (cs := #[.int .i64 4, .string (⟨#[]⟩ : ByteArray), .int .i64 0, .slice none 0 0]) ?_ 1 _ rfl; (with_reducible repeat (first | refine yA ?_ _ | refine yB ?_ | refine yC ?_ _)); refine blk_put (cs := #[.int .i64 0, .string (⟨#[]⟩ : ByteArray), .int .i64 0, .slice none 0 0]) ?_ 0 _ rfl; (with_reducible repeat (first | refine yA ?_ _ | refine yB ?_ | refine yC ?_ _)); exact BK152.out) Tryd.underlying25 rfl (by kernel_rfl)) rfl ?_
          exact ⟨_, by first | rfl | (simp [errW_none, errW_some] <;> rfl) | (simp [*, errW_none, errW_some] <;> rfl), by (with_reducible repeat (first | apply Kd.N_alloc | apply Kd.N_drewN | apply Kd.N_drew)); exact Kd.N_mono (Kd.N_far (p := ⟨gb152, 3, none⟩) (Kd.N_far (p := ⟨gb152, 2, none⟩) (Kd.N_far (p := ⟨gb152, 1, none⟩) (Kd.N_far (p := ⟨gb152, 0, none⟩) (Kd.N_mono HO_189003.out (fun k_ hk => (⟨hk, hk.2.1⟩ : _ ∧ k_ ≠ gb152))) (fun _ hk => hk.2) (.int .i64 4)) (fun _ hk => hk.2) (.string (rdOf ByteArray.empty y182 t185))) (fun _ hk => hk.2) (.int .i64 0)) (fun _ hk => hk.2) (.slice Ao72 x189003_2.length co72)) (fun _ hk => hk.1.1), by repeat (first | (with_reducible first | exact HI0.out | apply IsS46.alloc | apply IsS46.drewN | apply IsS46.drew | apply IsS46.set_1 | refine IsS46.far ?_ NB0_152.out _ | refine IsS46.far ?_ NB0_188.out _) | exact HI0.out), by repeat (first | (with_reducible first | exact HB.out | apply yF | apply yG | apply yH | refine yI ?_ (IsS46.ge HI0.out) | refine yI ?_ GE152.out | refine yI ?_ GE188.out) | exact HB.out), by repeat (first | (with_reducible first | exact HK.out | apply KeepBut.set_ | apply keep_drewN | apply keep_drew | apply keep_alloc | refine keep_far ?_ GW152.out _ | refine keep_far ?_ GW188.out _) | exact HK.out)⟩
        ·rw [if_neg c57] at H
         have c57b0 : decide (0 < x11_2) = false := decide_eq_false c57
         clear c57
         simp only [Option.some.injEq, Prod.mk.injEq] at H
         obtain ⟨rfl, rfl, rfl, rfl, rfl⟩ := H;have hnb73 := NB188_152.out;have hnc73 := NB152_188.out;have hnb74 := NB188_0.out;have hnc74 := NB0_188.out
         have hcz75_0 : wr.cell? ⟨gb188, 0, none⟩ = some (.int .i64 4) := (yE BK188.out 0).trans rfl
         have hcz75_1 : wr.cell? ⟨gb188, 1, none⟩ = some (.string (rdOf ByteArray.empty y182 t185)) := (yE BK188.out 1).trans rfl
         have hcz75_2 : wr.cell? ⟨gb188, 2, none⟩ = some (.int .i64 0) := (yE BK188.out 2).trans rfl
         have hcz75_3 : wr.cell? ⟨gb188, 3, none⟩ = some (u189003) := (yE BK188.out 3).trans rfl
         have hfz75_0 := yD BK188.out 0
         have hfz75_1 := yD BK188.out 1
         have hfz75_2 := yD BK188.out 2
         have hfz75_3 := yD BK188.out 3
         have hnb76 := NB152_0.out;have hnc76 := NB0_152.out
         have hcz77_0 : wr.cell? ⟨gb152, 0, none⟩ = some (.int .i64 0) := (yE BK152.out 0).trans rfl
         have hcz77_1 : wr.cell? ⟨gb152, 1, none⟩ = some (.string (⟨#[]⟩ : ByteArray)) := (yE BK152.out 1).trans rfl
         have hcz77_2 : wr.cell? ⟨gb152, 2, none⟩ = some (.int .i64 0) := (yE BK152.out 2).trans rfl
         have hcz77_3 : wr.cell? ⟨gb152, 3, none⟩ = some (.slice none 0 0) := (yE BK152.out 3).trans rfl
         have hfz77_0 := yD BK152.out 0
         have hfz77_1 := yD BK152.out 1
         have hfz77_2 := yD BK152.out 2
         have hfz77_3 := yD BK152.out 3
         obtain ⟨Ao78, co78, eo78⟩ := Kd.N_slice HO_189003.out
         subst eo78
         go_wp2
         refine bodyPost_ret (results_cell_row rfl _ _ gb152 25 #[.int .i64 4, .string (rdOf ByteArray.empty y182 t185), .int .i64 0, .slice Ao78 x189003_2.length co78] (0, 0) _ rfl (by (with_reducible repeat (first | refine yA ?_ _ | refine yB ?_ | refine yC ?_ _)); refine blk_put (cs := #[.int .i64 4, .string (rdOf ByteArray.empty y182 t185), .int .i64 0, .slice none 0 0]) ?_ 3 _ rfl; (with_reducible repeat (first | refine yA ?_ _ | refine yB ?_ | refine yC ?_ _)); refine blk_put (cs := #[.int .i64 4, .string (rdOf ByteArray.empty y182 t185), .int .i64 0, .slice none 0 0]) ?_ 2 _ rfl; (with_reducible repeat (first | refine yA ?_ _ | refine yB ?_ | refine yC ?_ _)); refine blk_put (cs := #[.int .i64 4, .string (⟨#[]⟩ : ByteArray), .int .i64 0, .slice none 0 0]) ?_ 1 _ rfl; (with_reducible repeat (first | refine yA ?_ _ | refine yB ?_ | refine yC ?_ _)); refine blk_put (cs := #[.int .i64 0, .string (⟨#[]⟩ : ByteArray), .int .i64 0, .slice none 0 0]) ?_ 0 _ rfl; (with_reducible repeat (first | refine yA ?_ _ | refine yB ?_ | refine yC ?_ _)); exact BK152.out) Tryd.underlying25 rfl (by kernel_rfl)) rfl ?_
         exact ⟨_, by first | rfl | (simp [errW_none, errW_some] <;> rfl) | (simp [*, errW_none, errW_some] <;> rfl), by (with_reducible repeat (first | apply Kd.N_alloc | apply Kd.N_drewN | apply Kd.N_drew)); exact Kd.N_mono (Kd.N_far (p := ⟨gb152, 3, none⟩) (Kd.N_far (p := ⟨gb152, 2, none⟩) (Kd.N_far (p := ⟨gb152, 1, none⟩) (Kd.N_far (p := ⟨gb152, 0, none⟩) (Kd.N_mono HO_189003.out (fun k_ hk => (⟨hk, hk.2.1⟩ : _ ∧ k_ ≠ gb152))) (fun _ hk => hk.2) (.int .i64 4)) (fun _ hk => hk.2) (.string (rdOf ByteArray.empty y182 t185))) (fun _ hk => hk.2) (.int .i64 0)) (fun _ hk => hk.2) (.slice Ao78 x189003_2.length co78)) (fun _ hk => hk.1.1), by repeat (first | (with_reducible first | exact HI0.out | apply IsS46.alloc | apply IsS46.drewN | apply IsS46.drew | apply IsS46.set_1 | refine IsS46.far ?_ NB0_152.out _ | refine IsS46.far ?_ NB0_188.out _) | exact HI0.out), by repeat (first | (with_reducible first | exact HB.out | apply yF | apply yG | apply yH | refine yI ?_ (IsS46.ge HI0.out) | refine yI ?_ GE152.out | refine yI ?_ GE188.out) | exact HB.out), by repeat (first | (with_reducible first | exact HK.out | apply KeepBut.set_ | apply keep_drewN | apply keep_drew | apply keep_alloc | refine keep_far ?_ GW152.out _ | refine keep_far ?_ GW188.out _) | exact HK.out)⟩
     ·rw [if_neg c46] at H
      exact absurd H (by simp)
    ·rw [if_neg c45] at H
     exact absurd H (by simp)
theorem fm_Type.calls (k : Nat) (g : Nat) (s0_0 : List Int) (s0_1 : Int) (a1 : Int) (a2 : Int) (a3 : Int) (r1 : Int) (r2 : ByteArray) (r3 : Int) (r4 : List (S25)) (r5 : Int) (w0 w : World) (hI : IsS46 w0 w g s0_0 s0_1) (hB : Below w0.heap.size w0 w) (h : fm_Type.f k s0_0 s0_1 a1 a2 a3 = some (r1, r2, r3, r4, r5)) (hN : NamesLaid w0 := by assumption) :
  Calls Tryd.prog 109 #[.pointer (some ⟨g, 0, none⟩), .int .i64 a1, .int .i64 a2, .int .i64 a3] w fun e w' => ∃ v3_ : Value, e = .returned (.agg #[.int .i64 r1, .string r2, .int .i64 r3, v3_]) ∧ Kd.N k25 25 w' w.heap.size (fun k_ => (w.heap.size ≤ k_)) v3_ r4 ∧ IsS46 w0 w' g s0_0 r5 ∧ Below w0.heap.size w0 w' ∧ KeepBut w w' g none :=
 fm_Type.callsN k g s0_0 s0_1 a1 a2 a3 r1 r2 r3 r4 r5 w0 w hI hB h hN
end Go.Proofs.YtpkkoiljombooaaDoor.G
