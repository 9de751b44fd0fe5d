import Derived.Test.YtpkkoiljombooaaDoorKG0
import Derived.Test.YtpkkoiljombooaaDoorKH1a
import Derived.Test.YtpkkoiljombooaaDoorKSp
import Derived.Test.YtpkkoiljombooaaDoorKH3a
import Derived.Laws.EntriesVeiled
import Derived.RangeFuncNested
import Derived.RangeFuncBound
import Derived.RangeFuncCalls
import Derived.RangeFuncLeaves
import Derived.RangeFuncFrom
import Derived.RangeFuncBox
import Derived.Shelf.Abstract
import Derived.Shelf.RegionOpen
import Derived.WalkKit
import Derived.OwnWalkIn
import Derived.TacticsInMore
import Derived.LoopNIn
import Derived.LoopIn
import Derived.Lib.Hide
set_option linter.unusedVariables false
namespace Go.Proofs.YtpkkoiljombooaaDoor.G
open Go.RowKit Go.Proofs.YtpkkoiljombooaaDoorW.PrintWords Go.Proofs.YtpkkoiljombooaaDoorW.PrintLast
attribute [local go_sem] Oper.semAt_some
set_option maxHeartbeats 1000000 in
theorem nodes_in (F : Fence) (n : Nat) (hF : ∀ f, F.fn f) (hro : F.round = none) (t : Tm) (A : Option Addr) (c : Nat) (w : World) :
  CallsIn F n Tryd.prog 80 #[tv t A c] w fun e w' => e = .returned (.func (.func 114) #[] #[.pointer (some ⟨w.heap.size, 0, none⟩)]) ∧ w' = w.alloc (.cells #[.int .i64 t.f0, .string t.f1, .int .i64 t.f2, .slice A t.f3.length c] 25) := by
 refine callsIn_of_wp Tryd.func80 rfl (hF _) ?_ hro
 simp only [Tryd.ntmps80, List.size_toArray, List.length_cons, List.length_nil, Nat.reduceAdd, Nat.reduceSub, Array.replicate_succ, Array.replicate_zero, List.push_toArray, List.append_toArray, List.nil_append, List.cons_append]
 gi_wp2
 go_ret
 exact ⟨rfl, rfl⟩
set_option maxRecDepth 100000 in
set_option maxHeartbeats 2000000 in
theorem nodes_stops (F : Fence) (hd : F.depth = none) (n : Nat) (hF : ∀ f, F.fn f) (hro : F.round = none) (Bt : Nat) (t : Tm) (hft : fitT t = true) (A : Option Addr) (c : Nat) (w₀ w : World) (h₀ : Below w₀.heap.size w₀ w) (hl : lies w₀ A t.f3) (hB : BoxT w Bt t A c) :
  SeqStopsK F n Tryd.prog 114 #[.pointer (some ⟨Bt, 0, none⟩)] Nv.encs (Kp w₀.heap.size) (fun ys => ys.map Nv.nd = nodesT 0 t) (fun pre => pre.map Nv.nd <+: nodesT 0 t) (nodesT 0 t).length w := by
 intro l J Jx W hW hJ hJx hY h0
 have hdd : ∀ k : Nat, (F.depth.isSome = true → 1 ≤ k) := fun k h => by rw [hd] at h; cases h
 have hJa : ∀ s W1 o, J s W1 → J s (W1.alloc o) := fun s W1 o hs => hJ s W1 _ none hs (World.grownBy_alloc W1 o none) (fun r e => by cases e)
 have HWa := Lib.hid (walk_any F hd hF hro l (nodesT 0 t).length w₀ J Jx hJa (fun _ => true) (fun m pre x W1 _ h1 h2 => YieldAt.anyDepth hd m (hY pre x W1 h1 h2)) _ t (Nat.lt_succ_self _) hft)
 have hbt : W.heap[Bt]? = some (.cells #[.int .i64 t.f0, .string t.f1, .int .i64 t.f2, .slice A t.f3.length c] 25 (0, 0)) := (hW.block Bt (blk_lt hB)).trans hB
 have hc0 : W.cell? ⟨Bt, 0, none⟩ = some (.int .i64 t.f0) := (yE hbt 0).trans rfl
 have hc1 : W.cell? ⟨Bt, 1, none⟩ = some (.string t.f1) := (yE hbt 1).trans rfl
 have hc2 : W.cell? ⟨Bt, 2, none⟩ = some (.int .i64 t.f2) := (yE hbt 2).trans rfl
 have hc3 : W.cell? ⟨Bt, 3, none⟩ = some (.slice A t.f3.length c) := (yE hbt 3).trans rfl
 have hbs : Bt < W.heap.size := blk_lt hbt
 have HJ := Lib.hid (hJa _ _ (.cells #[.func (.func 115) #[] #[.pointer (some ⟨W.heap.size, 0, none⟩), .pointer (some ⟨W.heap.size + 1, 0, none⟩)]] 32) (hJa _ _ (.cells #[.func (.yield l) #[] #[]] 101) h0))
 have HL := Lib.hid hl
 have hW0 : Below w₀.heap.size w₀ W := h₀.trans (hW.mono h₀.size)
 have HW := Lib.hid hW0
 clear hY hJ hJx hbt hB hW h0 hJa hl h₀ hW0
 refine callsIn_of_wp Tryd.func114 rfl (hF _) ?_ hro
 simp only [Tryd.ntmps114, List.size_toArray, List.length_cons, List.length_nil, Nat.reduceAdd, Nat.reduceSub, Array.replicate_succ, Array.replicate_zero, List.push_toArray, List.append_toArray, List.nil_append, List.cons_append]
 gi_wp2_with fail
 refine (HWa.out (n - 1) 0 A c W.heap.size (W.heap.size + 1) [] _ HL.out (((HW.out.alloc HW.out.size _)).alloc (by have := HW.out.size; simp; omega) _) ⟨?_, ?_⟩ HJ.out (by simp) (by simp)).mono ?_
 ·exact (Below.heap_alloc _ _ _ (by simp)).trans (World.alloc_heap_new W _)
 ·have := World.alloc_heap_new (W.alloc (.cells #[.func (.yield l) #[] #[]] 101)) (.cells #[.func (.func 115) #[] #[.pointer (some ⟨W.heap.size, 0, none⟩), .pointer (some ⟨W.heap.size + 1, 0, none⟩)]] 32)
  rwa [World.size_alloc] at this
 rintro e W2 (⟨rfl, zs, hzs, hJ2, hk2⟩ | ⟨rfl, zs, hzs, hx2⟩)
 ·have HZ := Lib.hid hzs
  clear hzs
  gi_wp2_with fail
  go_end0
  exact ⟨⟨_, rfl⟩, .inl ⟨zs, HZ.out, by simpa using hJ2⟩⟩
 ·have HZ := Lib.hid hzs
  clear hzs
  gi_wp2_with fail
  go_end0
  exact ⟨⟨_, rfl⟩, .inr ⟨zs, HZ.out, by simpa using hx2⟩⟩
end Go.Proofs.YtpkkoiljombooaaDoor.G
