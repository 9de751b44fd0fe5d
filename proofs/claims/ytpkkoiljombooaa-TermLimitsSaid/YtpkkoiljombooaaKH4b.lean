import Derived.Test.YtpkkoiljombooaaKG0
import Derived.Test.YtpkkoiljombooaaKG5
import Derived.Test.YtpkkoiljombooaaKB
import Derived.Test.YtpkkoiljombooaaKSp
import Derived.Test.YtpkkoiljombooaaKH3a
import Derived.Test.YtpkkoiljombooaaKH3b
import Derived.Test.YtpkkoiljombooaaKH4
import Derived.Test.YtpkkoiljombooaaKWMore
import Derived.Laws.EntriesVeiled
import Derived.RangeFuncNested
import Derived.RangeFuncBound
import Derived.RangeFuncCalls
import Derived.RangeFuncLeaves
import Derived.RangeFuncFrom
import Derived.RangeFuncBox
import Derived.Shelf.Abstract
import Derived.Shelf.RegionOpen
import Derived.WalkKit
import Derived.OwnWalkIn
import Derived.TacticsInMore
import Derived.LoopNIn
import Derived.LoopIn
import Derived.Lib.Hide
set_option linter.unusedVariables false
namespace Go.Proofs.Ytpkkoiljombooaa.G
open Go.RowKit Go.Proofs.YtpkkoiljombooaaW.PrintWords Go.Proofs.YtpkkoiljombooaaW.PrintLast Go.Proofs.YtpkkoiljombooaaW.PrintMore
attribute [local go_sem] Oper.semAt_some
def isVar (i : Int) (x : Nd) : Bool := decide (x.2.1 = 5) && decide (wrap64 (x.2.2.2 - x.1) = i)
def occursW (t : Tm) (i : Int) : Bool := (nodesT 0 t).any (isVar i)
theorem own_three (t : Tm) (A : Option Addr) (c : Nat) (i : Int) (w : World) :
  Hid (BoxT (((w.alloc (.cells #[.int .i64 t.f0, .string t.f1, .int .i64 t.f2, .slice A t.f3.length c] 25)).alloc (.cells #[.int .i64 i] 3)).alloc (.cells #[.bool false] 4)) w.heap.size t A c ∧ Boxed (((w.alloc (.cells #[.int .i64 t.f0, .string t.f1, .int .i64 t.f2, .slice A t.f3.length c] 25)).alloc (.cells #[.int .i64 i] 3)).alloc (.cells #[.bool false] 4)) (w.heap.size + 1) 3 (.int .i64 i) ∧ Boxed (((w.alloc (.cells #[.int .i64 t.f0, .string t.f1, .int .i64 t.f2, .slice A t.f3.length c] 25)).alloc (.cells #[.int .i64 i] 3)).alloc (.cells #[.bool false] 4)) (w.heap.size + 2) 4 (.bool false) ∧
   Below w.heap.size w (((w.alloc (.cells #[.int .i64 t.f0, .string t.f1, .int .i64 t.f2, .slice A t.f3.length c] 25)).alloc (.cells #[.int .i64 i] 3)).alloc (.cells #[.bool false] 4)) ∧ (((w.alloc (.cells #[.int .i64 t.f0, .string t.f1, .int .i64 t.f2, .slice A t.f3.length c] 25)).alloc (.cells #[.int .i64 i] 3)).alloc (.cells #[.bool false] 4)).heap.size = w.heap.size + 3) := by
 refine Lib.hid ⟨?_, ?_, ?_, yF (yF (yF (Below.refl _ _) _) _) _, by simp⟩
 ·exact (Below.heap_alloc _ _ _ (by simp; omega)).trans ((Below.heap_alloc _ _ _ (by simp)).trans (World.alloc_heap_new w _))
 ·refine Boxed.alloc ?_ _
  have := Boxed.new (w.alloc (.cells #[.int .i64 t.f0, .string t.f1, .int .i64 t.f2, .slice A t.f3.length c] 25)) 3 (.int .i64 i)
  rwa [World.size_alloc] at this
 ·have := Boxed.new ((w.alloc (.cells #[.int .i64 t.f0, .string t.f1, .int .i64 t.f2, .slice A t.f3.length c] 25)).alloc (.cells #[.int .i64 i] 3)) 4 (.bool false)
  rwa [World.size_alloc, World.size_alloc] at this
set_option maxRecDepth 100000 in
set_option maxHeartbeats 4000000 in
theorem Occurs_in (F : Fence) (hd : F.depth = none) (n : Nat) (hF : ∀ f, F.fn f) (hro : F.round = none) (hn : 3 ≤ n) (t : Tm) (hft : fitT t = true) (i : Int) (hi : 0 ≤ i) (A : Option Addr) (c : Nat) (w : World) (hl : lies w A t.f3)
  (hwf : ∀ m W, Below w.heap.size w W → CallsIn F m Try.prog 7 #[tv t A c] W fun e W' => e = .returned (.int .i64 0) ∧ Below W.heap.size W W') :
  CallsIn F n Try.prog 26 #[tv t A c, .int .i64 i] w fun e w' => e = .returned (.bool (occursW t i)) ∧ Below w.heap.size w w' := by
 have h1 : 1 ≤ n := by omega
 have HWF := Lib.hid hwf
 have HL := Lib.hid hl
 clear hwf hl
 have hib : decide (i < 0) = false := decide_eq_false (by omega)
 have HO := own_three t A c i w
 refine callsIn_of_wp_marks Try.func26 rfl (hF _) ?_ hro
 simp only [Try.ntmps26, List.size_toArray, List.length_cons, List.length_nil, Nat.reduceAdd, Nat.reduceSub, Array.replicate_succ, Array.replicate_zero, List.push_toArray, List.append_toArray, List.nil_append, List.cons_append]
 gi_wp2_with fail
 refine (HWF.out (n - 1) _ HO.out.2.2.2.1).mono ?_
 rintro e W1 ⟨rfl, hB1⟩
 have hbt : BoxT W1 w.heap.size t A c := (hB1.block _ (blk_lt HO.out.1)).trans HO.out.1
 have hbi : Boxed W1 (w.heap.size + 1) 3 (.int .i64 i) := (hB1.block _ HO.out.2.1.lt).trans HO.out.2.1
 have hbr : Boxed W1 (w.heap.size + 2) 4 (.bool false) := (hB1.block _ HO.out.2.2.1.lt).trans HO.out.2.2.1
 have hBW := Lib.hid (below_trans HO.out.2.2.2.1 hB1)
 have c0 : W1.cell? ⟨w.heap.size, 0, none⟩ = some (.int .i64 t.f0) := (yE hbt 0).trans rfl
 have c1 : W1.cell? ⟨w.heap.size, 1, none⟩ = some (.string t.f1) := (yE hbt 1).trans rfl
 have c2 : W1.cell? ⟨w.heap.size, 2, none⟩ = some (.int .i64 t.f2) := (yE hbt 2).trans rfl
 have c3 : W1.cell? ⟨w.heap.size, 3, none⟩ = some (.slice A t.f3.length c) := (yE hbt 3).trans rfl
 have ci := hbi.cell
 have HBi := Lib.hid hbi
 have HBr := Lib.hid hbr
 have hz : w.heap.size + 2 < W1.heap.size := hbr.lt
 clear hbt hbi hbr hB1 HO HWF
 gi_wp2_with (gi_at_call 23; refine (nodes_in F (n - 1) hF hro _ _ _ _).mono ?_; rintro e w' ⟨rfl, rfl⟩)
 have hb2 : BoxT (W1.alloc (.cells #[.int .i64 t.f0, .string t.f1, .int .i64 t.f2, .slice A t.f3.length c] 25)) W1.heap.size t A c := World.alloc_heap_new W1 _
 have hB0 : Below w.heap.size w (W1.alloc (.cells #[.int .i64 t.f0, .string t.f1, .int .i64 t.f2, .slice A t.f3.length c] 25)) := yF hBW.out _
 have hsz : (W1.alloc (.cells #[.int .i64 t.f0, .string t.f1, .int .i64 t.f2, .slice A t.f3.length c] 25)).heap.size = W1.heap.size + 1 := by simp
 have hbi : Boxed (W1.alloc (.cells #[.int .i64 t.f0, .string t.f1, .int .i64 t.f2, .slice A t.f3.length c] 25)) (w.heap.size + 1) 3 (.int .i64 i) := HBi.out.alloc _
 have hbr : Boxed (W1.alloc (.cells #[.int .i64 t.f0, .string t.f1, .int .i64 t.f2, .slice A t.f3.length c] 25)) (w.heap.size + 2) 4 (.bool false) := HBr.out.alloc _
 clear c0 c1 c2 c3 ci HBi HBr
 generalize W1.alloc (.cells #[.int .i64 t.f0, .string t.f1, .int .i64 t.f2, .slice A t.f3.length c] 25) = W0 at hb2 hB0 hsz hbi hbr ⊢
 refine wpIn_rangeFunc_ownH hro h1 (gf := 43) (lb := #[.pointer (some ⟨W1.heap.size, 0, none⟩)]) rfl (hF _) (enters_of Try.func43 (by kernel_rfl) rfl)
  (nodes_stops F hd (n - 1) hF hro W1.heap.size t hft A c w W0 hB0 HL.out hb2) Kp.trans (kp_b (by omega)) (Below.refl _ _) (fun _ => rfl)
  (fun pre W => Hid ((pre.map Nv.nd).any (isVar i) = false) ∧ Boxed W (w.heap.size + 1) 3 (.int .i64 i) ∧ Boxed W (w.heap.size + 2) 4 (.bool false) ∧ Below w.heap.size w W)
  (fun c pre W => c = .ret ∧ Hid ((pre.map Nv.nd).any (isVar i) = true) ∧ Boxed W (w.heap.size + 2) 4 (.bool true) ∧ Below w.heap.size w W)
  (fun s A B row hs hg hr => ⟨hs.1, (boxed_own _ _ (fun _ : Unit => _)).from _ () A B row hs.2.1 hg hr, (boxed_own _ _ (fun _ : Unit => _)).from _ () A B row hs.2.2.1 hg hr, ownFrom_below (β := Unit) (Nat.le_refl _) (by omega) () A B row hs.2.2.2 hg hr⟩)
  (fun c s A B row hs hg hr => ⟨hs.1, hs.2.1, (boxed_own _ _ (fun _ : Unit => _)).from _ () A B row hs.2.2.1 hg hr, ownFrom_below (β := Unit) (Nat.le_refl _) (by omega) () A B row hs.2.2.2 hg hr⟩)
  ⟨Lib.hid rfl, hbi, hbr, hB0⟩
  (fun x a' W => ∃ Bx, BoxT W Bx x.t x.A x.c ∧ a' = { tmps := #[tv t A c, .int .i64 i, .pointer (some ⟨w.heap.size, 0, none⟩), .pointer (some ⟨w.heap.size + 1, 0, none⟩), .pointer (some ⟨w.heap.size + 1 + 1, 0, none⟩), .int .i64 x.b, .pointer (some ⟨Bx, 0, none⟩), tv t A c, .int .i64 0, .bool false, .bool false, .int .i64 i, .bool false, .bool false, tv t A c, .func (.func 43) #[] #[.pointer (some ⟨W1.heap.size, 0, none⟩)], .int .i64 x.b, tv x.t x.A x.c, undef, undef, undef, undef, undef, undef, undef, undef, undef, undef, undef], defers := [] })
  (fun x a' s W W' row hs hg hr => by obtain ⟨Bx, hb, rfl⟩ := hs; exact ⟨Bx, box_own () W W' row hb hg hr, rfl⟩)
  ?assign ?body ?done ?stop
 case assign =>
  rintro l pre x W K ⟨hp, hbi, hbr, hB⟩ hK
  have HK := Lib.hid hK
  have HB := Lib.hid hB
  have HBi := Lib.hid hbi
  have HBr := Lib.hid hbr
  clear hB hK hbi hbr
  simp only [Nv.encs]
  gi_wp2
  refine HK.out _ _ ((KeepsOthers.alloc _ _).from _) (Kp.alloc HB.out.size _) ⟨hp, HBi.out.alloc _, HBr.out.alloc _, (HB.out.alloc HB.out.size _)⟩ ⟨W.heap.size, World.alloc_heap_new _ _, rfl⟩
 case body =>
  rintro l pre x a' W hl hrec ⟨hp, hbi, hbr, hB⟩ ⟨Bx, hbx, rfl⟩ hlt
  have cr := hbr.cell;have fr := hbr.frozen;have ci := hbi.cell
  have hx0 : W.cell? ⟨Bx, 0, none⟩ = some (.int .i64 x.t.f0) := (yE hbx 0).trans rfl
  have hx2 : W.cell? ⟨Bx, 2, none⟩ = some (.int .i64 x.t.f2) := (yE hbx 2).trans rfl
  have HB := Lib.hid hB
  have HBi := Lib.hid hbi
  have HBr := Lib.hid hbr
  clear hB hbx hrec hlt hbi hbr
  cases hv : isVar i x.nd with
  | true =>
   have hv2 : x.t.f0 = 5 ∧ wrap64 (x.t.f2 - x.b) = i := by
    have h2 := (Bool.and_eq_true_iff.mp hv)
    exact ⟨of_decide_eq_true h2.1, of_decide_eq_true h2.2⟩
   have k5b : (x.t.f0 == 5) = true := beq_iff_eq.mpr hv2.1
   have kib : (wrap64 (x.t.f2 - x.b) == i) = true := beq_iff_eq.mpr hv2.2
   have HX : Hid (((pre ++ [x]).map Nv.nd).any (isVar i) = true) := Lib.hid (by simp [hv])
   clear hv hv2 hi hib
   gi_wp2
   exact ⟨(KeepsOthers.setCell _ _ _).from _, rfl, HX, (blk_set HBr.out 0 _).trans rfl, HB.out.setCell (p := ⟨w.heap.size + 1 + 1, 0, none⟩) (by simp; omega) _⟩
  | false =>
   have HX : Hid (((pre ++ [x]).map Nv.nd).any (isVar i) = false) := Lib.hid (by simpa [hv] using hp.out)
   by_cases k5 : x.t.f0 = 5
   ·have hv2 : ¬ wrap64 (x.t.f2 - x.b) = i := by simpa [isVar, Nv.nd, k5] using hv
    have k5b : (x.t.f0 == 5) = true := beq_iff_eq.mpr k5
    have kib : (wrap64 (x.t.f2 - x.b) == i) = false := beq_eq_false_iff_ne.mpr hv2
    clear hv hv2 hi hib k5
    gi_wp2
    exact ⟨(KeepsOthers.refl _).from _, Kp.refl _ _, HX, HBi.out, HBr.out, HB.out⟩
   ·have k5b : (x.t.f0 == 5) = false := beq_eq_false_iff_ne.mpr k5
    clear hv hi hib k5
    gi_wp2
    exact ⟨(KeepsOthers.refl _).from _, Kp.refl _ _, HX, HBi.out, HBr.out, HB.out⟩
 case done =>
  rintro D ys W hD hys ⟨hp, hbi, hbr, hB⟩ hK
  have cr := hbr.cell;have fr := hbr.frozen
  have HB := Lib.hid hB
  have HBr := Lib.hid hbr
  have HY := Lib.hid hys
  have hKs := (KeepsOthers.setCell W ⟨w.heap.size + 1 + 1, 0, none⟩ (.bool false)).same D _ hK rfl
  have HK := Lib.hid hKs
  clear hB hK hbi hbr hys hKs
  gi_wp2
  refine ⟨by simp, .inl ⟨_, _, rfl, run_takeDeferred HK.out, ?_⟩⟩
  have hb3 : Boxed (W.setCell ⟨w.heap.size + 1 + 1, 0, none⟩ (.bool false)) (w.heap.size + 2) 4 (.bool false) := (blk_set HBr.out 0 _).trans rfl
  have hc5 := (hb3.kept (grownBy_putObj' _ D (.deferred none)) (by intro e; cases e; omega)).cell
  refine ⟨.bool false, by simp [results, Try.f26, go_sem, hc5], ?_, ?_⟩
  ·rw [occursW, ← HY.out, hp.out]
  ·exact (HB.out.setCell (p := ⟨w.heap.size + 1 + 1, 0, none⟩) (by simp; omega) _).trans (belowK_b (w := w) (Nat.le_refl _) _ D _ _ (by omega) HK.out rfl rfl)
 case stop =>
  rintro D c pre W hD hpre ⟨rfl, hp, hbr, hB⟩ hK
  have HB := Lib.hid hB
  have HBr := Lib.hid hbr
  have HP := Lib.hid hpre
  have HK := Lib.hid hK
  clear hB hK hbr hpre
  gi_wp2
  refine ⟨by simp, .inl ⟨_, _, rfl, run_takeDeferred HK.out, ?_⟩⟩
  have hc5 := (HBr.out.kept (grownBy_putObj' _ D (.deferred none)) (by intro e; cases e; omega)).cell
  refine ⟨.bool true, by simp [results, Try.f26, go_sem, hc5], ?_, ?_⟩
  ·obtain ⟨z, hz⟩ := HP.out
   rw [occursW, ← hz, List.any_append, hp.out]
   rfl
  ·exact HB.out.trans (belowK_b (w := w) (Nat.le_refl _) _ D _ _ (by omega) HK.out rfl rfl)
set_option maxHeartbeats 2000000 in
theorem Occurs_bad (t : Tm) (i : Int) (A : Option Addr) (c : Nat) (w : World) (e0 : Int) (he : e0 ≠ 0 ∨ i < 0)
  (hwf : ∀ W, Below w.heap.size w W → Calls Try.prog 7 #[tv t A c] W fun e W' => e = .returned (.int .i64 e0) ∧ Below W.heap.size W W') :
  Calls Try.prog 26 #[tv t A c, .int .i64 i] w fun e w' => e = .returned (.bool false) ∧ Below w.heap.size w w' := by
 have HWF := Lib.hid hwf
 have HO := own_three t A c i w
 have HE := Lib.hid he
 clear hwf he
 go_enter Try.func26, Try.ntmps26
 go_wp2_with fail
 refine (HWF.out _ HO.out.2.2.2.1).mono ?_
 rintro e W1 ⟨rfl, hB1⟩
 have hbi : Boxed W1 (w.heap.size + 1) 3 (.int .i64 i) := (hB1.block _ HO.out.2.1.lt).trans HO.out.2.1
 have hbr : Boxed W1 (w.heap.size + 2) 4 (.bool false) := (hB1.block _ HO.out.2.2.1.lt).trans HO.out.2.2.1
 have hBW := Lib.hid (below_trans HO.out.2.2.2.1 hB1)
 have ci := hbi.cell;have cr := hbr.cell;have fr := hbr.frozen
 have HBr := Lib.hid hbr
 clear hbi hbr hB1 HO HWF
 by_cases h0 : e0 = 0
 ·have e0n : (e0 != 0) = false := bne_eq_false_iff_eq.mpr h0
  have hi : decide (i < 0) = true := decide_eq_true (by have := HE.out; omega)
  clear h0
  go_wp2_with fail
  refine bodyPost_ret (v := .bool false) ?_ rfl ⟨rfl, hBW.out.setCell (p := ⟨w.heap.size + 1 + 1, 0, none⟩) (by simp; omega) _⟩
  have hb3 : Boxed (W1.setCell ⟨w.heap.size + 1 + 1, 0, none⟩ (.bool false)) (w.heap.size + 2) 4 (.bool false) := (blk_set HBr.out 0 _).trans rfl
  simp [results, Try.f26, go_sem, hb3.cell]
 ·have e0n : (e0 != 0) = true := bne_iff_ne.mpr h0
  clear h0
  go_wp2_with fail
  refine bodyPost_ret (v := .bool false) ?_ rfl ⟨rfl, hBW.out.setCell (p := ⟨w.heap.size + 1 + 1, 0, none⟩) (by simp; omega) _⟩
  have hb3 : Boxed (W1.setCell ⟨w.heap.size + 1 + 1, 0, none⟩ (.bool false)) (w.heap.size + 2) 4 (.bool false) := (blk_set HBr.out 0 _).trans rfl
  simp [results, Try.f26, go_sem, hb3.cell]
def term_Occurs.f (k : Nat) (a0_0 : Int) (a0_1 : ByteArray) (a0_2 : Int) (l0_3 : List Tm) (a1 : Int) : Option Bool :=
 (term_WellFormed.f k a0_0 a0_1 a0_2 l0_3).bind fun e => if fitT ⟨a0_0, a0_1, a0_2, l0_3⟩ then (if e = 0 ∧ 0 ≤ a1 then some (occursW ⟨a0_0, a0_1, a0_2, l0_3⟩ a1) else some false) else none
theorem term_Occurs.calls (k : Nat) (a0_0 : Int) (a0_1 : ByteArray) (a0_2 : Int) (A0_3 : Option Addr) (c0_3 : Nat) (l0_3 : List Tm) (a1 : Int) (r : Bool) (w : World) (hr0_3 : lies w A0_3 l0_3) (hc0_3 : l0_3.length ≤ c0_3) (h : term_Occurs.f k a0_0 a0_1 a0_2 l0_3 a1 = some r) :
  Calls Try.prog 26 #[.agg #[.int .i64 a0_0, .string a0_1, .int .i64 a0_2, .slice A0_3 l0_3.length c0_3], .int .i64 a1] w fun e w' => e = .returned (.bool r) ∧ Below w.heap.size w w' := by
 unfold term_Occurs.f at h
 obtain ⟨e, he, h⟩ := yK h
 have hwf : ∀ W, Below w.heap.size w W → Calls Try.prog 7 #[tv ⟨a0_0, a0_1, a0_2, l0_3⟩ A0_3 c0_3] W fun e' W' => e' = .returned (.int .i64 e) ∧ Below W.heap.size W W' :=
  fun W hW => term_WellFormed.calls k a0_0 a0_1 a0_2 A0_3 c0_3 l0_3 e W (Kd.C_below hr0_3 hW) hc0_3 he
 split at h
 ·next hf =>
  by_cases h0 : e = 0 ∧ 0 ≤ a1
  ·rw [if_pos h0] at h
   cases h
   obtain ⟨rfl, h1⟩ := h0
   exact callsIn_wide.1 (Occurs_in Fence.wide rfl 3 (fun _ => trivial) rfl (Nat.le_refl _) _ hf a1 h1 A0_3 c0_3 w hr0_3 (fun m W hW => callsIn_wide.2 (hwf W hW)))
  ·rw [if_neg h0] at h
   cases h
   exact Occurs_bad ⟨a0_0, a0_1, a0_2, l0_3⟩ a1 A0_3 c0_3 w e (by omega) hwf
 ·cases h
end Go.Proofs.Ytpkkoiljombooaa.G
