import Derived.Test.YtpkkoiljombooaaKG0
import Derived.Test.YtpkkoiljombooaaKG5
import Derived.Test.YtpkkoiljombooaaKB
import Derived.Test.YtpkkoiljombooaaKSp
import Derived.Test.YtpkkoiljombooaaKH3a
import Derived.Test.YtpkkoiljombooaaKH3b
import Derived.Test.YtpkkoiljombooaaKWMore
import Derived.Laws.EntriesVeiled
import Derived.RangeFuncNested
import Derived.RangeFuncBound
import Derived.RangeFuncCalls
import Derived.RangeFuncLeaves
import Derived.RangeFuncFrom
import Derived.RangeFuncBox
import Derived.Shelf.Abstract
import Derived.Shelf.RegionOpen
import Derived.WalkKit
import Derived.OwnWalkIn
import Derived.TacticsInMore
import Derived.LoopNIn
import Derived.LoopIn
import Derived.Lib.Hide
set_option linter.unusedVariables false
namespace Go.Proofs.Ytpkkoiljombooaa.G
open Go.RowKit Go.Proofs.YtpkkoiljombooaaW.PrintWords Go.Proofs.YtpkkoiljombooaaW.PrintLast Go.Proofs.YtpkkoiljombooaaW.PrintMore
attribute [local go_sem] Oper.semAt_some max2_int min2_int max_two min_two
def scopeStep (n : Int) (x : Nd) : Int := if x.2.1 = 5 then mx n (wrap64 (wrap64 (x.2.2.2 - x.1) + 1)) else n
def scopeW (t : Tm) : Int := (nodesT 0 t).foldl scopeStep 0
theorem three_blocks (t : Tm) (A : Option Addr) (c : Nat) (w W : World) (hW : Below w.heap.size w W) (v : Value) (ty : TypeId) :
  Hid (BoxT (((W).alloc (.cells #[v] ty)).alloc (.cells #[.int .i64 t.f0, .string t.f1, .int .i64 t.f2, .slice A t.f3.length c] 25)) (W.heap.size + 1) t A c ∧ Boxed (((W).alloc (.cells #[v] ty)).alloc (.cells #[.int .i64 t.f0, .string t.f1, .int .i64 t.f2, .slice A t.f3.length c] 25)) W.heap.size ty v ∧ Below w.heap.size w (((W).alloc (.cells #[v] ty)).alloc (.cells #[.int .i64 t.f0, .string t.f1, .int .i64 t.f2, .slice A t.f3.length c] 25)) ∧ (((W).alloc (.cells #[v] ty)).alloc (.cells #[.int .i64 t.f0, .string t.f1, .int .i64 t.f2, .slice A t.f3.length c] 25)).heap.size = W.heap.size + 2) := by
 refine Lib.hid ⟨?_, Boxed.alloc (Boxed.new W ty v) _, yF (yF hW _) _, by simp⟩
 have := World.alloc_heap_new (W.alloc (.cells #[v] ty)) (.cells #[.int .i64 t.f0, .string t.f1, .int .i64 t.f2, .slice A t.f3.length c] 25)
 rwa [World.size_alloc] at this
theorem cells_own {β : Type} (B : Nat) (cs : β → Array Value) (ty : TypeId) : Own (fun s W => W.heap[B]? = some (.cells (cs s) ty (0, 0))) := fun s X Y row hs hg hrow => by
 have hlt := blk_lt hs
 refine (hg.block B hlt ?_).trans hs
 intro e
 obtain ⟨o, ho, hc⟩ := hrow B e.symm
 rw [hs] at ho
 cases ho
 cases hc
theorem box_own {B n₀ : Nat} {x : Tm} {A : Option Addr} {c : Nat} {ty : TypeId} : OwnFrom n₀ (fun (_ : Unit) W => W.heap[B]? = some (.cells #[.int .i64 x.f0, .string x.f1, .int .i64 x.f2, .slice A x.f3.length c] ty (0, 0))) := (cells_own B (fun _ => _) ty).from _
set_option maxRecDepth 100000 in
set_option maxHeartbeats 2000000 in
theorem Scope_in (F : Fence) (hd : F.depth = none) (n : Nat) (hF : ∀ f, F.fn f) (hro : F.round = none) (hn : 3 ≤ n) (t : Tm) (hft : fitT t = true) (A : Option Addr) (c : Nat) (w : World) (hl : lies w A t.f3)
  (hwf : ∀ m W, Below w.heap.size w W → CallsIn F m Try.prog 7 #[tv t A c] W fun e W' => e = .returned (.int .i64 0) ∧ Below W.heap.size W W') :
  CallsIn F n Try.prog 25 #[tv t A c] w fun e w' => e = .returned (.int .i64 (scopeW t)) ∧ Below w.heap.size w w' := by
 have h1 : 1 ≤ n := by omega
 have HWF := Lib.hid hwf
 have HL := Lib.hid hl
 clear hwf hl
 refine callsIn_of_wp_marks Try.func25 rfl (hF _) ?_ hro
 simp only [Try.ntmps25, List.size_toArray, List.length_cons, List.length_nil, Nat.reduceAdd, Nat.reduceSub, Array.replicate_succ, Array.replicate_zero, List.push_toArray, List.append_toArray, List.nil_append, List.cons_append]
 gi_wp2_with (gi_at_call 7; refine (HWF.out (n - 1) _ ?side).mono ?_; (case side => exact yF (Below.refl _ _) _); rintro e W1 ⟨rfl, hB1⟩; obtain ⟨hcb, hfb⟩ := bcell hB1; have hz : w.heap.size < W1.heap.size := (by have := hB1.size; simp at this; omega); have hBW := Lib.hid (below_trans (yF (Below.refl _ _) _) hB1))
 gi_wp2_with (gi_at_call 23; refine (nodes_in F (n - 1) hF hro _ _ _ _).mono ?_; rintro e w' ⟨rfl, rfl⟩)
 obtain ⟨hb2, hb1, hB0, hsz⟩ := (three_blocks t A c w W1 hBW.out (.int .i64 0) 3).out
 have hw1 : w.heap.size ≤ W1.heap.size := Nat.le_of_lt hz
 clear hcb hfb
 generalize (W1.alloc (.cells #[.int .i64 0] 3)).alloc (.cells #[.int .i64 t.f0, .string t.f1, .int .i64 t.f2, .slice A t.f3.length c] 25) = W0 at hb2 hb1 hB0 hsz ⊢
 refine wpIn_rangeFunc_ownH hro h1 (gf := 43) (lb := #[.pointer (some ⟨W1.heap.size + 1, 0, none⟩)]) rfl (hF _) (enters_of Try.func43 (by kernel_rfl) rfl)
  (nodes_stops F hd (n - 1) hF hro (W1.heap.size + 1) t hft A c w W0 hB0 HL.out hb2) Kp.trans (kp_b (by omega)) (Below.refl _ _) (fun _ => rfl)
  (fun pre W => Boxed W W1.heap.size 3 (.int .i64 ((pre.map Nv.nd).foldl scopeStep 0)) ∧ Below w.heap.size w W)
  (fun _ _ _ => False)
  (OwnFrom.and ((boxed_own _ _ _).from _) (ownFrom_below (Nat.le_refl _) (by omega)))
  (fun _ _ _ _ _ hs _ _ => hs)
  ⟨hb1, hB0⟩
  (fun x a' W => ∃ Bx, BoxT W Bx x.t x.A x.c ∧ a' = { tmps := #[tv t A c, .pointer (some ⟨w.heap.size, 0, none⟩), .int .i64 0, .pointer (some ⟨W1.heap.size, 0, none⟩), .int .i64 x.b, .pointer (some ⟨Bx, 0, none⟩), tv t A c, .int .i64 0, .bool false, tv t A c, .func (.func 43) #[] #[.pointer (some ⟨W1.heap.size + 1, 0, none⟩)], .int .i64 x.b, tv x.t x.A x.c, undef, undef, undef, undef, undef, undef, undef, undef, undef, undef, undef], defers := [] })
  (fun x a' s W W' row hs hg hr => by obtain ⟨Bx, hb, rfl⟩ := hs; exact ⟨Bx, box_own () W W' row hb hg hr, rfl⟩)
  ?assign ?body ?done ?stop
 case assign =>
  rintro l pre x W K ⟨hc, hB⟩ hK
  have HC := Lib.hid hc
  have HB := Lib.hid hB
  have HK := Lib.hid hK
  clear hc hB hK
  simp only [Nv.encs]
  gi_wp2
  refine HK.out _ _ ((KeepsOthers.alloc _ _).from _) (Kp.alloc HB.out.size _) ⟨HC.out.alloc _, (HB.out.alloc HB.out.size _)⟩ ⟨W.heap.size, World.alloc_heap_new _ _, rfl⟩
 case body =>
  rintro l pre x a' W hl hrec ⟨hc, hB⟩ ⟨Bx, hbx, rfl⟩ hlt
  have hcc := hc.cell;have hcf := hc.frozen
  have hx0 : W.cell? ⟨Bx, 0, none⟩ = some (.int .i64 x.t.f0) := (yE hbx 0).trans rfl
  have hx2 : W.cell? ⟨Bx, 2, none⟩ = some (.int .i64 x.t.f2) := (yE hbx 2).trans rfl
  have HC := Lib.hid hc
  have HB := Lib.hid hB
  clear hc hB hbx hrec hlt
  by_cases k5 : x.t.f0 = 5
  ·have k5b : (x.t.f0 == 5) = true := beq_iff_eq.mpr k5
   have HX : Hid (((pre ++ [x]).map Nv.nd).foldl scopeStep 0 = mx ((pre.map Nv.nd).foldl scopeStep 0) (wrap64 (wrap64 (x.t.f2 - x.b) + 1))) := Lib.hid (by simp [scopeStep, Nv.nd, k5])
   clear k5
   gi_wp2
   all_goals
    refine ⟨(KeepsOthers.setCell _ _ _).from _, ⟨(Below.refl w.heap.size W).setCell (p := ⟨W1.heap.size, 0, none⟩) hw1 _, KT.set HC.out (by decide) 0 _⟩, ?_, HB.out.setCell (p := ⟨W1.heap.size, 0, none⟩) hw1 _⟩
    rw [HX.out]
    refine (blk_set HC.out 0 _).trans ?_
    congr 3
    have : ∀ a b : Int, (b ≤ a → a = mx a b) ∧ (a ≤ b → b = mx a b) := by intro a b; unfold mx; constructor <;> intro h <;> split <;> omega
    simp only [List.setIfInBounds_toArray, List.set_cons_zero]
    congr 2
    first | exact congrArg _ ((this _ _).1 (by omega)) | exact congrArg _ ((this _ _).2 (by omega))
  ·have k5b : (x.t.f0 == 5) = false := beq_eq_false_iff_ne.mpr k5
   have HX : Hid (((pre ++ [x]).map Nv.nd).foldl scopeStep 0 = (pre.map Nv.nd).foldl scopeStep 0) := Lib.hid (by simp [scopeStep, Nv.nd, k5])
   clear k5
   gi_wp2
   exact ⟨(KeepsOthers.refl _).from _, Kp.refl _ _, by rw [HX.out]; exact HC.out, HB.out⟩
 case done =>
  rintro D ys W hD hys ⟨hc, hB⟩ hK
  have hcc := hc.cell
  have HB := Lib.hid hB
  have HK := Lib.hid hK
  have HY := Lib.hid hys
  clear hB hK hys
  gi_wp2
  refine ⟨by simp, .inl ⟨_, _, rfl, run_takeDeferred HK.out, ?_⟩⟩
  refine ⟨_, results_tmp rfl _ _ _, ?_, HB.out.trans (belowK_b (w := w) (Nat.le_refl _) W D _ _ (by omega) HK.out rfl rfl)⟩
  show Ending.returned (.int .i64 ((ys.map Nv.nd).foldl scopeStep 0)) = _
  rw [scopeW, ← HY.out]
 case stop =>
  rintro D c pre W _ _ h _
  exact h.elim
set_option maxHeartbeats 2000000 in
theorem Scope_bad (t : Tm) (A : Option Addr) (c : Nat) (w : World) (e0 : Int) (he : e0 ≠ 0)
  (hwf : ∀ W, Below w.heap.size w W → Calls Try.prog 7 #[tv t A c] W fun e W' => e = .returned (.int .i64 e0) ∧ Below W.heap.size W W') :
  Calls Try.prog 25 #[tv t A c] w fun e w' => e = .returned (.int .i64 0) ∧ Below w.heap.size w w' := by
 have HWF := Lib.hid hwf
 have e0b : (e0 == 0) = false := beq_eq_false_iff_ne.mpr he
 have e0n : (e0 != 0) = true := bne_iff_ne.mpr he
 clear hwf he
 go_enter Try.func25, Try.ntmps25
 go_wp2_with (go_at_call 7; refine (HWF.out _ ?side).mono ?_; (case side => exact yF (Below.refl _ _) _); rintro e W1 ⟨rfl, hB1⟩)
 go_ret
 exact ⟨rfl, below_trans (yF (Below.refl _ _) _) hB1⟩
def term_Scope.f (k : Nat) (a0_0 : Int) (a0_1 : ByteArray) (a0_2 : Int) (l0_3 : List Tm) : Option Int :=
 (term_WellFormed.f k a0_0 a0_1 a0_2 l0_3).bind fun e => if fitT ⟨a0_0, a0_1, a0_2, l0_3⟩ then (if e = 0 then some (scopeW ⟨a0_0, a0_1, a0_2, l0_3⟩) else some 0) else none
theorem term_Scope.calls (k : Nat) (a0_0 : Int) (a0_1 : ByteArray) (a0_2 : Int) (A0_3 : Option Addr) (c0_3 : Nat) (l0_3 : List Tm) (r : Int) (w : World) (hr0_3 : lies w A0_3 l0_3) (hc0_3 : l0_3.length ≤ c0_3) (h : term_Scope.f k a0_0 a0_1 a0_2 l0_3 = some r) :
  Calls Try.prog 25 #[.agg #[.int .i64 a0_0, .string a0_1, .int .i64 a0_2, .slice A0_3 l0_3.length c0_3]] w fun e w' => e = .returned (.int .i64 r) ∧ Below w.heap.size w w' := by
 unfold term_Scope.f at h
 obtain ⟨e, he, h⟩ := yK h
 have hwf : ∀ W, Below w.heap.size w W → Calls Try.prog 7 #[tv ⟨a0_0, a0_1, a0_2, l0_3⟩ A0_3 c0_3] W fun e' W' => e' = .returned (.int .i64 e) ∧ Below W.heap.size W W' :=
  fun W hW => term_WellFormed.calls k a0_0 a0_1 a0_2 A0_3 c0_3 l0_3 e W (Kd.C_below hr0_3 hW) hc0_3 he
 split at h
 ·next hf =>
  by_cases h0 : e = 0
  ·subst h0
   simp only [if_true] at h
   cases h
   exact callsIn_wide.1 (Scope_in Fence.wide rfl 3 (fun _ => trivial) rfl (Nat.le_refl _) _ hf A0_3 c0_3 w hr0_3 (fun m W hW => callsIn_wide.2 (hwf W hW)))
  ·rw [if_neg h0] at h
   cases h
   exact Scope_bad ⟨a0_0, a0_1, a0_2, l0_3⟩ A0_3 c0_3 w e h0 hwf
 ·cases h
end Go.Proofs.Ytpkkoiljombooaa.G
