import Derived.Test.YtpkkoiljombooaaDoorKG0
import Derived.Test.YtpkkoiljombooaaDoorKH1a
import Derived.Test.YtpkkoiljombooaaDoorKSp
import Derived.Test.YtpkkoiljombooaaDoorKH3a
import Derived.Test.YtpkkoiljombooaaDoorKH3b
import Derived.Laws.EntriesVeiled
import Derived.RangeFuncNested
import Derived.RangeFuncBound
import Derived.RangeFuncCalls
import Derived.RangeFuncLeaves
import Derived.RangeFuncFrom
import Derived.RangeFuncBox
import Derived.Shelf.Abstract
import Derived.Shelf.RegionOpen
import Derived.WalkKit
import Derived.OwnWalkIn
import Derived.TacticsInMore
import Derived.LoopNIn
import Derived.LoopIn
import Derived.Lib.Hide
set_option linter.unusedVariables false
namespace Go.Proofs.YtpkkoiljombooaaDoor.G
open Go.RowKit Go.Proofs.YtpkkoiljombooaaDoorW.PrintWords Go.Proofs.YtpkkoiljombooaaDoorW.PrintLast
attribute [local go_sem] Oper.semAt_some
def sizeW (t : Tm) : Int := wrap64 ((nodesT 0 t).length : Int)
theorem wrap_snoc (n : Nat) : wrap64 (wrap64 (n : Int) + 1) = wrap64 ((n + 1 : Nat) : Int) := by unfold wrap64; omega
set_option maxRecDepth 100000 in
set_option maxHeartbeats 2000000 in
theorem Size_in (F : Fence) (hd : F.depth = none) (n : Nat) (hF : ∀ f, F.fn f) (hro : F.round = none) (hn : 3 ≤ n) (t : Tm) (hft : fitT t = true) (A : Option Addr) (c : Nat) (w : World) (hl : lies w A t.f3) :
  CallsIn F n Tryd.prog 27 #[tv t A c] w fun e w' => e = .returned (.int .i64 (sizeW t)) ∧ Below w.heap.size w w' := by
 have h1 : 1 ≤ n := by omega
 refine callsIn_of_wp_marks Tryd.func27 rfl (hF _) ?_ hro
 simp only [Tryd.ntmps27, List.size_toArray, List.length_cons, List.length_nil, Nat.reduceAdd, Nat.reduceSub, Array.replicate_succ, Array.replicate_zero, List.push_toArray, List.append_toArray, List.nil_append, List.cons_append]
 gi_wp2_with (gi_at_call 80; refine (nodes_in F (n - 1) hF hro _ _ _ _).mono ?_; rintro e w' ⟨rfl, rfl⟩)
 have hb2 : BoxT (((w.alloc (.cells #[.int .i64 t.f0, .string t.f1, .int .i64 t.f2, .slice A t.f3.length c] 25)).alloc (.cells #[.int .i64 0] 3)).alloc (.cells #[.int .i64 t.f0, .string t.f1, .int .i64 t.f2, .slice A t.f3.length c] 25)) (w.heap.size + 1 + 1) t A c := by
  have := World.alloc_heap_new ((w.alloc (.cells #[.int .i64 t.f0, .string t.f1, .int .i64 t.f2, .slice A t.f3.length c] 25)).alloc (.cells #[.int .i64 0] 3)) (.cells #[.int .i64 t.f0, .string t.f1, .int .i64 t.f2, .slice A t.f3.length c] 25)
  rwa [World.size_alloc, World.size_alloc] at this
 have hb1 : Boxed (((w.alloc (.cells #[.int .i64 t.f0, .string t.f1, .int .i64 t.f2, .slice A t.f3.length c] 25)).alloc (.cells #[.int .i64 0] 3)).alloc (.cells #[.int .i64 t.f0, .string t.f1, .int .i64 t.f2, .slice A t.f3.length c] 25)) (w.heap.size + 1) 3 (.int .i64 0) := by
  refine Boxed.alloc ?_ _
  have := Boxed.new (w.alloc (.cells #[.int .i64 t.f0, .string t.f1, .int .i64 t.f2, .slice A t.f3.length c] 25)) 3 (.int .i64 0)
  rwa [World.size_alloc] at this
 have hB0 : Below w.heap.size w (((w.alloc (.cells #[.int .i64 t.f0, .string t.f1, .int .i64 t.f2, .slice A t.f3.length c] 25)).alloc (.cells #[.int .i64 0] 3)).alloc (.cells #[.int .i64 t.f0, .string t.f1, .int .i64 t.f2, .slice A t.f3.length c] 25)) :=
  yF (yF (yF (Below.refl _ _) _) _) _
 have hsz : (((w.alloc (.cells #[.int .i64 t.f0, .string t.f1, .int .i64 t.f2, .slice A t.f3.length c] 25)).alloc (.cells #[.int .i64 0] 3)).alloc (.cells #[.int .i64 t.f0, .string t.f1, .int .i64 t.f2, .slice A t.f3.length c] 25)).heap.size = w.heap.size + 3 := by simp
 generalize (((w.alloc (.cells #[.int .i64 t.f0, .string t.f1, .int .i64 t.f2, .slice A t.f3.length c] 25)).alloc (.cells #[.int .i64 0] 3)).alloc (.cells #[.int .i64 t.f0, .string t.f1, .int .i64 t.f2, .slice A t.f3.length c] 25)) = W0 at hb2 hb1 hB0 hsz ⊢
 refine wpIn_rangeFunc_ownG hro h1 (gf := 114) (lb := #[.pointer (some ⟨w.heap.size + 1 + 1, 0, none⟩)]) rfl (hF _) (enters_of Tryd.func114 (by kernel_rfl) rfl)
  (nodes_stops F hd (n - 1) hF hro (w.heap.size + 1 + 1) t hft A c w W0 hB0 hl hb2) Kp.trans (kp_b (by omega)) (Below.refl _ _) (fun _ => rfl)
  (fun pre W => Boxed W (w.heap.size + 1) 3 (.int .i64 (wrap64 (pre.length : Int))) ∧ Below w.heap.size w W)
  (fun _ _ _ => False)
  (OwnFrom.and ((boxed_own _ _ _).from _) (ownFrom_below (Nat.le_refl _) (by omega)))
  (fun _ _ _ _ _ hs _ _ => hs)
  ⟨by simpa [wrap64] using hb1, hB0⟩
  (fun x => { tmps := #[tv t A c, .pointer (some ⟨w.heap.size, 0, none⟩), .int .i64 0, .pointer (some ⟨w.heap.size + 1, 0, none⟩), tv t A c, .func (.func 114) #[] #[.pointer (some ⟨w.heap.size + 1 + 1, 0, none⟩)], .int .i64 x.b, tv x.t x.A x.c, undef, undef, undef], defers := [] }) ?assign ?body ?done ?stop
 case assign =>
  intro l x W K hK
  gi_wp2
  simp [Nv.encs]
  exact hK
 case body =>
  rintro l pre x W ⟨hc, hB⟩ _
  have hcc := hc.cell;have hcf := hc.frozen
  have HC := Lib.hid hc
  have HB := Lib.hid hB
  clear hc hB
  gi_wp2
  refine ⟨(KeepsOthers.setCell _ _ _).from _, ⟨(Below.refl w.heap.size W).setCell (p := ⟨w.heap.size + 1, 0, none⟩) (by simp) _, KT.set HC.out (by decide) 0 _⟩, ?_, HB.out.setCell (p := ⟨w.heap.size + 1, 0, none⟩) (by simp) _⟩
  rw [List.length_append, List.length_singleton, ← wrap_snoc]
  exact (blk_set HC.out 0 _).trans rfl
 case done =>
  rintro D ys W hD hys ⟨hc, hB⟩ hK
  have hcc := hc.cell
  have HB := Lib.hid hB
  have HK := Lib.hid hK
  have HY := Lib.hid hys
  clear hB hK hys
  gi_wp2
  refine ⟨by simp, .inl ⟨_, _, rfl, run_takeDeferred HK.out, ?_⟩⟩
  refine ⟨_, results_tmp rfl _ _ _, ?_, HB.out.trans (belowK_b (w := w) (Nat.le_refl _) W D _ _ (by omega) HK.out rfl rfl)⟩
  show Ending.returned (.int .i64 (wrap64 (ys.length : Int))) = _
  rw [sizeW, ← HY.out, List.length_map]
 case stop =>
  rintro D c pre W _ _ h _
  exact h.elim
theorem Size_ok (t : Tm) (hft : fitT t = true) (A : Option Addr) (c : Nat) (w : World) (hl : lies w A t.f3) :
  Calls Tryd.prog 27 #[tv t A c] w fun e w' => e = .returned (.int .i64 (sizeW t)) ∧ Below w.heap.size w w' :=
 callsIn_wide.1 (Size_in Fence.wide rfl 3 (fun _ => trivial) rfl (Nat.le_refl _) t hft A c w hl)
def term_Size.f (a0_0 : Int) (a0_1 : ByteArray) (a0_2 : Int) (l0_3 : List Tm) : Option Int := if fitT ⟨a0_0, a0_1, a0_2, l0_3⟩ then some (sizeW ⟨a0_0, a0_1, a0_2, l0_3⟩) else none
theorem term_Size.calls (a0_0 : Int) (a0_1 : ByteArray) (a0_2 : Int) (A0_3 : Option Addr) (c0_3 : Nat) (l0_3 : List Tm) (r : Int) (w : World) (hr0_3 : lies w A0_3 l0_3) (hc0_3 : l0_3.length ≤ c0_3) (h : term_Size.f a0_0 a0_1 a0_2 l0_3 = some r) :
  Calls Tryd.prog 27 #[.agg #[.int .i64 a0_0, .string a0_1, .int .i64 a0_2, .slice A0_3 l0_3.length c0_3]] w fun e w' => e = .returned (.int .i64 r) ∧ Below w.heap.size w w' := by
 unfold term_Size.f at h
 split at h
 ·next hf => cases h; exact Size_ok _ hf A0_3 c0_3 w hr0_3
 ·cases h
end Go.Proofs.YtpkkoiljombooaaDoor.G
