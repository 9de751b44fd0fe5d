import Derived.Test.YtpkkoiljombooaaKG0
import Derived.Test.YtpkkoiljombooaaKG1
import Derived.Test.YtpkkoiljombooaaKG5
import Derived.Test.YtpkkoiljombooaaKG6
import Derived.Test.YtpkkoiljombooaaKH3
import Derived.Test.YtpkkoiljombooaaKH4
import Derived.Test.YtpkkoiljombooaaKH4b
import Derived.Test.YtpkkoiljombooaaKH4c
import Derived.Test.YtpkkoiljombooaaKH4d
import Derived.Test.YtpkkoiljombooaaKH5
import Derived.Test.YtpkkoiljombooaaKH2
import Derived.WalkKit
import Derived.KernelRfl
set_option linter.unusedVariables false
namespace Go.Proofs.Ytpkkoiljombooaa.G
open Go.RowKit Go.Proofs.YtpkkoiljombooaaW.PrintWords Go.Proofs.YtpkkoiljombooaaW.PrintLast
abbrev awV : Tm := ⟨5, ⟨#[]⟩, 2, []⟩
theorem lies_nil (W : World) (A : Option Addr) : lies W A [] := ⟨rfl, by simp, fun h => absurd h (Nat.lt_irrefl 0)⟩
theorem lies_one {W : World} {b : Nat} {x : Tm} {A : Option Addr} {c : Nat} (h : W.heap[b]? = some (.cells #[.int .i64 x.f0, .string x.f1, .int .i64 x.f2, .slice A x.f3.length c] 25 (0, 0))) (hl : lies W A x.f3) (hc : x.f3.length ≤ c) : lies W (some ⟨b, 0, none⟩) [x] := by
 refine ⟨rfl, by simp, fun _ => ⟨⟨b, 0, none⟩, rfl, fun j p hj => ?_⟩⟩
 have hj0 : j = 0 := by
  have := (List.getElem?_eq_some_iff.1 hj).1
  simpa using this
 subst hj0
 obtain rfl : x = p := by simpa using hj
 refine ⟨[.int .i64 x.f0, .string x.f1, .int .i64 x.f2, .slice A x.f3.length c], rfl, k25_mk W x hc hl, fun i u hu => ?_⟩
 have : (⟨b, 0, none⟩ : Addr).add (0 * k25.sz + i) = ⟨b, i, none⟩ := by simp [Addr.add]; exact fun e => e.symm
 rw [this]
 have hi : i < 4 := (List.getElem?_eq_some_iff.1 hu).1
 rcases i with _ | _ | _ | _ | i
 ·cases hu; simp [World.cell?, h]
 ·cases hu; simp [World.cell?, h]
 ·cases hu; simp [World.cell?, h]
 ·cases hu; simp [World.cell?, h]
 ·omega
structure Aw (w : World) (n : Nat) (W : World) : Prop where
 v : W.heap[n]? = some (.cells #[.int .i64 5, .string ⟨#[]⟩, .int .i64 2, .slice none 0 0] 25 (0, 0))
 r1 : W.heap[n + 1]? = some (.cells #[.int .i64 5, .string ⟨#[]⟩, .int .i64 2, .slice none 0 0] 25 (0, 0))
 l : W.heap[n + 2]? = some (.cells #[.int .i64 3, .string ⟨#[120]⟩, .int .i64 0, .slice (some ⟨n + 1, 0, none⟩) 1 1] 25 (0, 0))
 r2 : W.heap[n + 3]? = some (.cells #[.int .i64 5, .string ⟨#[]⟩, .int .i64 2, .slice none 0 0] 25 (0, 0))
 m : W.heap[n + 4]? = some (.cells #[.int .i64 3, .string ⟨#[]⟩, .int .i64 0, .slice (some ⟨n + 3, 0, none⟩) 1 1] 25 (0, 0))
 b : Below w.heap.size w W
theorem Aw.below {w W W' : World} {n : Nat} (h : Aw w n W) (hb : Below W.heap.size W W') : Aw w n W' :=
 ⟨(hb.block _ (blk_lt h.v)).trans h.v, (hb.block _ (blk_lt h.r1)).trans h.r1, (hb.block _ (blk_lt h.l)).trans h.l, (hb.block _ (blk_lt h.r2)).trans h.r2, (hb.block _ (blk_lt h.m)).trans h.m, below_trans h.b hb⟩
theorem Aw.la1 {w W : World} {n : Nat} (h : Aw w n W) : lies W (some ⟨n + 1, 0, none⟩) [awV] := lies_one (x := awV) h.r1 (lies_nil _ _) (Nat.zero_le _)
theorem Aw.la2 {w W : World} {n : Nat} (h : Aw w n W) : lies W (some ⟨n + 3, 0, none⟩) [awV] := lies_one (x := awV) h.r2 (lies_nil _ _) (Nat.zero_le _)
def f5_awake.f : Option Bool := some true
set_option maxRecDepth 100000 in
set_option maxHeartbeats 8000000 in
theorem f5_awake.calls (r : Bool) (w : World) (h : f5_awake.f = some r) : Calls Try.prog 11 #[] w fun e w' => e = .returned (.bool r) ∧ Below w.heap.size w w' := by
 cases h
 go_enter Try.func11, Try.ntmps11
 have hW0 : Hid (Aw w w.heap.size (((((w.alloc (.cells #[.int .i64 5, .string ⟨#[]⟩, .int .i64 2, .slice none 0 0] 25)).alloc (.cells #[.int .i64 5, .string ⟨#[]⟩, .int .i64 2, .slice none 0 0] 25)).alloc (.cells #[.int .i64 3, .string ⟨#[120]⟩, .int .i64 0, .slice (some ⟨w.heap.size + 1, 0, none⟩) 1 1] 25)).alloc (.cells #[.int .i64 5, .string ⟨#[]⟩, .int .i64 2, .slice none 0 0] 25)).alloc (.cells #[.int .i64 3, .string ⟨#[]⟩, .int .i64 0, .slice (some ⟨w.heap.size + 1 + 1 + 1, 0, none⟩) 1 1] 25))) := by
  refine Lib.hid ⟨?_, ?_, ?_, ?_, ?_, yF (yF (yF (yF (yF (Below.refl _ _) _) _) _) _) _⟩
  ·exact (Below.heap_alloc _ _ _ (by first | (simp; done) | (simp; omega))).trans ((Below.heap_alloc _ _ _ (by first | (simp; done) | (simp; omega))).trans ((Below.heap_alloc _ _ _ (by first | (simp; done) | (simp; omega))).trans ((Below.heap_alloc _ _ _ (by simp)).trans (World.alloc_heap_new _ _))))
  ·refine (Below.heap_alloc _ _ _ (by first | (simp; done) | (simp; omega))).trans ((Below.heap_alloc _ _ _ (by first | (simp; done) | (simp; omega))).trans ((Below.heap_alloc _ _ _ (by simp)).trans ?_))
   have := World.alloc_heap_new (w.alloc (.cells #[.int .i64 5, .string ⟨#[]⟩, .int .i64 2, .slice none 0 0] 25)) (.cells #[.int .i64 5, .string ⟨#[]⟩, .int .i64 2, .slice none 0 0] 25)
   rwa [World.size_alloc] at this
  ·refine (Below.heap_alloc _ _ _ (by first | (simp; done) | (simp; omega))).trans ((Below.heap_alloc _ _ _ (by simp)).trans ?_)
   have := World.alloc_heap_new ((w.alloc (.cells #[.int .i64 5, .string ⟨#[]⟩, .int .i64 2, .slice none 0 0] 25)).alloc (.cells #[.int .i64 5, .string ⟨#[]⟩, .int .i64 2, .slice none 0 0] 25)) (.cells #[.int .i64 3, .string ⟨#[120]⟩, .int .i64 0, .slice (some ⟨w.heap.size + 1, 0, none⟩) 1 1] 25)
   rwa [World.size_alloc, World.size_alloc] at this
  ·refine (Below.heap_alloc _ _ _ (by simp)).trans ?_
   have := World.alloc_heap_new (((w.alloc (.cells #[.int .i64 5, .string ⟨#[]⟩, .int .i64 2, .slice none 0 0] 25)).alloc (.cells #[.int .i64 5, .string ⟨#[]⟩, .int .i64 2, .slice none 0 0] 25)).alloc (.cells #[.int .i64 3, .string ⟨#[120]⟩, .int .i64 0, .slice (some ⟨w.heap.size + 1, 0, none⟩) 1 1] 25)) (.cells #[.int .i64 5, .string ⟨#[]⟩, .int .i64 2, .slice none 0 0] 25)
   rwa [World.size_alloc, World.size_alloc, World.size_alloc] at this
  ·have := World.alloc_heap_new ((((w.alloc (.cells #[.int .i64 5, .string ⟨#[]⟩, .int .i64 2, .slice none 0 0] 25)).alloc (.cells #[.int .i64 5, .string ⟨#[]⟩, .int .i64 2, .slice none 0 0] 25)).alloc (.cells #[.int .i64 3, .string ⟨#[120]⟩, .int .i64 0, .slice (some ⟨w.heap.size + 1, 0, none⟩) 1 1] 25)).alloc (.cells #[.int .i64 5, .string ⟨#[]⟩, .int .i64 2, .slice none 0 0] 25)) (.cells #[.int .i64 3, .string ⟨#[]⟩, .int .i64 0, .slice (some ⟨w.heap.size + 1 + 1 + 1, 0, none⟩) 1 1] 25)
   rwa [World.size_alloc, World.size_alloc, World.size_alloc, World.size_alloc] at this
 go_wp2_with fail
 have HA := hW0
 generalize ((((w.alloc (.cells #[.int .i64 5, .string ⟨#[]⟩, .int .i64 2, .slice none 0 0] 25)).alloc (.cells #[.int .i64 5, .string ⟨#[]⟩, .int .i64 2, .slice none 0 0] 25)).alloc (.cells #[.int .i64 3, .string ⟨#[120]⟩, .int .i64 0, .slice (some ⟨w.heap.size + 1, 0, none⟩) 1 1] 25)).alloc (.cells #[.int .i64 5, .string ⟨#[]⟩, .int .i64 2, .slice none 0 0] 25)).alloc (.cells #[.int .i64 3, .string ⟨#[]⟩, .int .i64 0, .slice (some ⟨w.heap.size + 1 + 1 + 1, 0, none⟩) 1 1] 25) = W0 at HA ⊢
 clear hW0
 refine (term_Same.calls 3 ⟨#[120]⟩ 0 (some ⟨w.heap.size + 1, 0, none⟩) 1 [awV] 3 ⟨#[]⟩ 0 (some ⟨w.heap.size + 3, 0, none⟩) 1 [awV] true _ (HA.out.la1) (Nat.le_refl _) (HA.out.la2) (Nat.le_refl _) (by kernel_rfl)).mono ?_
 rintro e W1 ⟨rfl, hB⟩
 have HX := Lib.hid (HA.out.below hB)
 clear HA hB;have HA := HX;clear HX
 have v0c0 : W1.cell? ⟨w.heap.size, 0, none⟩ = some (.int .i64 5) := (yE HA.out.v 0).trans rfl
 have v0c1 : W1.cell? ⟨w.heap.size, 1, none⟩ = some (.string ⟨#[]⟩) := (yE HA.out.v 1).trans rfl
 have v0c2 : W1.cell? ⟨w.heap.size, 2, none⟩ = some (.int .i64 2) := (yE HA.out.v 2).trans rfl
 have v0c3 : W1.cell? ⟨w.heap.size, 3, none⟩ = some (.slice none 0 0) := (yE HA.out.v 3).trans rfl
 have l0c0 : W1.cell? ⟨w.heap.size + 1 + 1, 0, none⟩ = some (.int .i64 3) := (yE HA.out.l 0).trans rfl
 have l0c1 : W1.cell? ⟨w.heap.size + 1 + 1, 1, none⟩ = some (.string ⟨#[120]⟩) := (yE HA.out.l 1).trans rfl
 have l0c2 : W1.cell? ⟨w.heap.size + 1 + 1, 2, none⟩ = some (.int .i64 0) := (yE HA.out.l 2).trans rfl
 have l0c3 : W1.cell? ⟨w.heap.size + 1 + 1, 3, none⟩ = some (.slice (some ⟨w.heap.size + 1, 0, none⟩) 1 1) := (yE HA.out.l 3).trans rfl
 go_wp2_with fail
 refine (term_Same.calls 3 ⟨#[120]⟩ 0 (some ⟨w.heap.size + 1, 0, none⟩) 1 [awV] 5 ⟨#[]⟩ 2 none 0 [] false _ (HA.out.la1) (Nat.le_refl _) (lies_nil _ _) (Nat.zero_le _) (by kernel_rfl)).mono ?_
 rintro e W2 ⟨rfl, hB⟩
 have HX := Lib.hid (HA.out.below hB)
 clear HA hB;have HA := HX;clear HX
 have v1c0 : W2.cell? ⟨w.heap.size, 0, none⟩ = some (.int .i64 5) := (yE HA.out.v 0).trans rfl
 have v1c1 : W2.cell? ⟨w.heap.size, 1, none⟩ = some (.string ⟨#[]⟩) := (yE HA.out.v 1).trans rfl
 have v1c2 : W2.cell? ⟨w.heap.size, 2, none⟩ = some (.int .i64 2) := (yE HA.out.v 2).trans rfl
 have v1c3 : W2.cell? ⟨w.heap.size, 3, none⟩ = some (.slice none 0 0) := (yE HA.out.v 3).trans rfl
 have l1c0 : W2.cell? ⟨w.heap.size + 1 + 1, 0, none⟩ = some (.int .i64 3) := (yE HA.out.l 0).trans rfl
 have l1c1 : W2.cell? ⟨w.heap.size + 1 + 1, 1, none⟩ = some (.string ⟨#[120]⟩) := (yE HA.out.l 1).trans rfl
 have l1c2 : W2.cell? ⟨w.heap.size + 1 + 1, 2, none⟩ = some (.int .i64 0) := (yE HA.out.l 2).trans rfl
 have l1c3 : W2.cell? ⟨w.heap.size + 1 + 1, 3, none⟩ = some (.slice (some ⟨w.heap.size + 1, 0, none⟩) 1 1) := (yE HA.out.l 3).trans rfl
 go_wp2_with fail
 refine (term_Scope.calls 30 3 ⟨#[120]⟩ 0 (some ⟨w.heap.size + 1, 0, none⟩) 1 [awV] 2 _ (HA.out.la1) (Nat.le_refl _) (by kernel_rfl)).mono ?_
 rintro e W3 ⟨rfl, hB⟩
 have HX := Lib.hid (HA.out.below hB)
 clear HA hB;have HA := HX;clear HX
 have v2c0 : W3.cell? ⟨w.heap.size, 0, none⟩ = some (.int .i64 5) := (yE HA.out.v 0).trans rfl
 have v2c1 : W3.cell? ⟨w.heap.size, 1, none⟩ = some (.string ⟨#[]⟩) := (yE HA.out.v 1).trans rfl
 have v2c2 : W3.cell? ⟨w.heap.size, 2, none⟩ = some (.int .i64 2) := (yE HA.out.v 2).trans rfl
 have v2c3 : W3.cell? ⟨w.heap.size, 3, none⟩ = some (.slice none 0 0) := (yE HA.out.v 3).trans rfl
 have l2c0 : W3.cell? ⟨w.heap.size + 1 + 1, 0, none⟩ = some (.int .i64 3) := (yE HA.out.l 0).trans rfl
 have l2c1 : W3.cell? ⟨w.heap.size + 1 + 1, 1, none⟩ = some (.string ⟨#[120]⟩) := (yE HA.out.l 1).trans rfl
 have l2c2 : W3.cell? ⟨w.heap.size + 1 + 1, 2, none⟩ = some (.int .i64 0) := (yE HA.out.l 2).trans rfl
 have l2c3 : W3.cell? ⟨w.heap.size + 1 + 1, 3, none⟩ = some (.slice (some ⟨w.heap.size + 1, 0, none⟩) 1 1) := (yE HA.out.l 3).trans rfl
 go_wp2_with fail
 refine (term_Occurs.calls 30 3 ⟨#[120]⟩ 0 (some ⟨w.heap.size + 1, 0, none⟩) 1 [awV] 1 true _ (HA.out.la1) (Nat.le_refl _) (by kernel_rfl)).mono ?_
 rintro e W4 ⟨rfl, hB⟩
 have HX := Lib.hid (HA.out.below hB)
 clear HA hB;have HA := HX;clear HX
 have v3c0 : W4.cell? ⟨w.heap.size, 0, none⟩ = some (.int .i64 5) := (yE HA.out.v 0).trans rfl
 have v3c1 : W4.cell? ⟨w.heap.size, 1, none⟩ = some (.string ⟨#[]⟩) := (yE HA.out.v 1).trans rfl
 have v3c2 : W4.cell? ⟨w.heap.size, 2, none⟩ = some (.int .i64 2) := (yE HA.out.v 2).trans rfl
 have v3c3 : W4.cell? ⟨w.heap.size, 3, none⟩ = some (.slice none 0 0) := (yE HA.out.v 3).trans rfl
 have l3c0 : W4.cell? ⟨w.heap.size + 1 + 1, 0, none⟩ = some (.int .i64 3) := (yE HA.out.l 0).trans rfl
 have l3c1 : W4.cell? ⟨w.heap.size + 1 + 1, 1, none⟩ = some (.string ⟨#[120]⟩) := (yE HA.out.l 1).trans rfl
 have l3c2 : W4.cell? ⟨w.heap.size + 1 + 1, 2, none⟩ = some (.int .i64 0) := (yE HA.out.l 2).trans rfl
 have l3c3 : W4.cell? ⟨w.heap.size + 1 + 1, 3, none⟩ = some (.slice (some ⟨w.heap.size + 1, 0, none⟩) 1 1) := (yE HA.out.l 3).trans rfl
 go_wp2_with fail
 refine (term_Occurs.calls 30 3 ⟨#[120]⟩ 0 (some ⟨w.heap.size + 1, 0, none⟩) 1 [awV] 0 false _ (HA.out.la1) (Nat.le_refl _) (by kernel_rfl)).mono ?_
 rintro e W5 ⟨rfl, hB⟩
 have HX := Lib.hid (HA.out.below hB)
 clear HA hB;have HA := HX;clear HX
 have v4c0 : W5.cell? ⟨w.heap.size, 0, none⟩ = some (.int .i64 5) := (yE HA.out.v 0).trans rfl
 have v4c1 : W5.cell? ⟨w.heap.size, 1, none⟩ = some (.string ⟨#[]⟩) := (yE HA.out.v 1).trans rfl
 have v4c2 : W5.cell? ⟨w.heap.size, 2, none⟩ = some (.int .i64 2) := (yE HA.out.v 2).trans rfl
 have v4c3 : W5.cell? ⟨w.heap.size, 3, none⟩ = some (.slice none 0 0) := (yE HA.out.v 3).trans rfl
 have l4c0 : W5.cell? ⟨w.heap.size + 1 + 1, 0, none⟩ = some (.int .i64 3) := (yE HA.out.l 0).trans rfl
 have l4c1 : W5.cell? ⟨w.heap.size + 1 + 1, 1, none⟩ = some (.string ⟨#[120]⟩) := (yE HA.out.l 1).trans rfl
 have l4c2 : W5.cell? ⟨w.heap.size + 1 + 1, 2, none⟩ = some (.int .i64 0) := (yE HA.out.l 2).trans rfl
 have l4c3 : W5.cell? ⟨w.heap.size + 1 + 1, 3, none⟩ = some (.slice (some ⟨w.heap.size + 1, 0, none⟩) 1 1) := (yE HA.out.l 3).trans rfl
 go_wp2_with fail
 refine (term_Size.calls 3 ⟨#[120]⟩ 0 (some ⟨w.heap.size + 1, 0, none⟩) 1 [awV] 2 _ (HA.out.la1) (Nat.le_refl _) (by kernel_rfl)).mono ?_
 rintro e W6 ⟨rfl, hB⟩
 have HX := Lib.hid (HA.out.below hB)
 clear HA hB;have HA := HX;clear HX
 have v5c0 : W6.cell? ⟨w.heap.size, 0, none⟩ = some (.int .i64 5) := (yE HA.out.v 0).trans rfl
 have v5c1 : W6.cell? ⟨w.heap.size, 1, none⟩ = some (.string ⟨#[]⟩) := (yE HA.out.v 1).trans rfl
 have v5c2 : W6.cell? ⟨w.heap.size, 2, none⟩ = some (.int .i64 2) := (yE HA.out.v 2).trans rfl
 have v5c3 : W6.cell? ⟨w.heap.size, 3, none⟩ = some (.slice none 0 0) := (yE HA.out.v 3).trans rfl
 have l5c0 : W6.cell? ⟨w.heap.size + 1 + 1, 0, none⟩ = some (.int .i64 3) := (yE HA.out.l 0).trans rfl
 have l5c1 : W6.cell? ⟨w.heap.size + 1 + 1, 1, none⟩ = some (.string ⟨#[120]⟩) := (yE HA.out.l 1).trans rfl
 have l5c2 : W6.cell? ⟨w.heap.size + 1 + 1, 2, none⟩ = some (.int .i64 0) := (yE HA.out.l 2).trans rfl
 have l5c3 : W6.cell? ⟨w.heap.size + 1 + 1, 3, none⟩ = some (.slice (some ⟨w.heap.size + 1, 0, none⟩) 1 1) := (yE HA.out.l 3).trans rfl
 go_wp2_with fail
 refine (term_Depth.calls 30 3 ⟨#[120]⟩ 0 (some ⟨w.heap.size + 1, 0, none⟩) 1 [awV] 2 _ (HA.out.la1) (Nat.le_refl _) (by kernel_rfl)).mono ?_
 rintro e W7 ⟨rfl, hB⟩
 have HX := Lib.hid (HA.out.below hB)
 clear HA hB;have HA := HX;clear HX
 have v6c0 : W7.cell? ⟨w.heap.size, 0, none⟩ = some (.int .i64 5) := (yE HA.out.v 0).trans rfl
 have v6c1 : W7.cell? ⟨w.heap.size, 1, none⟩ = some (.string ⟨#[]⟩) := (yE HA.out.v 1).trans rfl
 have v6c2 : W7.cell? ⟨w.heap.size, 2, none⟩ = some (.int .i64 2) := (yE HA.out.v 2).trans rfl
 have v6c3 : W7.cell? ⟨w.heap.size, 3, none⟩ = some (.slice none 0 0) := (yE HA.out.v 3).trans rfl
 have l6c0 : W7.cell? ⟨w.heap.size + 1 + 1, 0, none⟩ = some (.int .i64 3) := (yE HA.out.l 0).trans rfl
 have l6c1 : W7.cell? ⟨w.heap.size + 1 + 1, 1, none⟩ = some (.string ⟨#[120]⟩) := (yE HA.out.l 1).trans rfl
 have l6c2 : W7.cell? ⟨w.heap.size + 1 + 1, 2, none⟩ = some (.int .i64 0) := (yE HA.out.l 2).trans rfl
 have l6c3 : W7.cell? ⟨w.heap.size + 1 + 1, 3, none⟩ = some (.slice (some ⟨w.heap.size + 1, 0, none⟩) 1 1) := (yE HA.out.l 3).trans rfl
 go_wp2_with fail
 refine (term_IsObject.calls 30 3 ⟨#[120]⟩ 0 (some ⟨w.heap.size + 1, 0, none⟩) 1 [awV] true _ (HA.out.la1) (Nat.le_refl _) (by kernel_rfl)).mono ?_
 rintro e W8 ⟨rfl, hB⟩
 have HX := Lib.hid (HA.out.below hB)
 clear HA hB;have HA := HX;clear HX
 have v7c0 : W8.cell? ⟨w.heap.size, 0, none⟩ = some (.int .i64 5) := (yE HA.out.v 0).trans rfl
 have v7c1 : W8.cell? ⟨w.heap.size, 1, none⟩ = some (.string ⟨#[]⟩) := (yE HA.out.v 1).trans rfl
 have v7c2 : W8.cell? ⟨w.heap.size, 2, none⟩ = some (.int .i64 2) := (yE HA.out.v 2).trans rfl
 have v7c3 : W8.cell? ⟨w.heap.size, 3, none⟩ = some (.slice none 0 0) := (yE HA.out.v 3).trans rfl
 have l7c0 : W8.cell? ⟨w.heap.size + 1 + 1, 0, none⟩ = some (.int .i64 3) := (yE HA.out.l 0).trans rfl
 have l7c1 : W8.cell? ⟨w.heap.size + 1 + 1, 1, none⟩ = some (.string ⟨#[120]⟩) := (yE HA.out.l 1).trans rfl
 have l7c2 : W8.cell? ⟨w.heap.size + 1 + 1, 2, none⟩ = some (.int .i64 0) := (yE HA.out.l 2).trans rfl
 have l7c3 : W8.cell? ⟨w.heap.size + 1 + 1, 3, none⟩ = some (.slice (some ⟨w.heap.size + 1, 0, none⟩) 1 1) := (yE HA.out.l 3).trans rfl
 go_wp2_with fail
 refine (term_IsType.calls 30 3 ⟨#[120]⟩ 0 (some ⟨w.heap.size + 1, 0, none⟩) 1 [awV] false _ (HA.out.la1) (Nat.le_refl _) (by kernel_rfl)).mono ?_
 rintro e W9 ⟨rfl, hB⟩
 have HX := Lib.hid (HA.out.below hB)
 clear HA hB;have HA := HX;clear HX
 go_wp2_with fail
 refine (term_IsKind.calls 30 1 ⟨#[]⟩ 0 none 0 [] true _ (lies_nil _ _) (Nat.zero_le _) (by kernel_rfl)).mono ?_
 rintro e W10 ⟨rfl, hB⟩
 have HX := Lib.hid (HA.out.below hB)
 clear HA hB;have HA := HX;clear HX
 go_wp2_with fail
 refine (term_WellFormed.calls 30 0 ⟨#[]⟩ 0 none 0 [] 1 _ (lies_nil _ _) (Nat.zero_le _) (by kernel_rfl)).mono ?_
 rintro e W11 ⟨rfl, hB⟩
 have HX := Lib.hid (HA.out.below hB)
 clear HA hB;have HA := HX;clear HX
 go_wp2_with fail
 refine (term_Metas.calls 30 6 ⟨#[]⟩ 3 none 0 [] [3] _ (lies_nil _ _) (Nat.zero_le _) (by kernel_rfl)).mono ?_
 rintro e W12 ⟨v11, rfl, hR11, hB⟩
 obtain ⟨A11, co11, hv11⟩ := Kd.R_slice hR11
 subst hv11;clear hR11
 have HX := Lib.hid (HA.out.below hB)
 clear HA hB;have HA := HX;clear HX
 go_wp2_with fail
 refine (term_Consts.calls 30 4 ⟨#[99]⟩ 0 none 0 [] [⟨#[99]⟩] _ (lies_nil _ _) (Nat.zero_le _) (by kernel_rfl)).mono ?_
 rintro e W13 ⟨v12, rfl, hR12, hB⟩
 obtain ⟨A12, co12, hv12⟩ := Kd.R_slice hR12
 subst hv12;clear hR12
 have HX := Lib.hid (HA.out.below hB)
 clear HA hB;have HA := HX;clear HX
 go_wp2_with fail
 go_ret
 exact ⟨rfl, HA.out.b⟩
end Go.Proofs.Ytpkkoiljombooaa.G
