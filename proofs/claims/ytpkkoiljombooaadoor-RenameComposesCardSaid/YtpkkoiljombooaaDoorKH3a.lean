import Derived.Test.YtpkkoiljombooaaDoorKG0
import Derived.Test.YtpkkoiljombooaaDoorKH1a
import Derived.Test.YtpkkoiljombooaaDoorKSp
import Derived.RangeFuncNested
import Derived.RangeFuncBound
import Derived.RangeFuncCalls
import Derived.RangeFuncLeaves
import Derived.RangeFuncFrom
import Derived.RangeFuncBox
import Derived.Shelf.Abstract
import Derived.Shelf.RegionOpen
import Derived.WalkKit
import Derived.OwnWalkIn
import Derived.TacticsInMore
import Derived.LoopNIn
import Derived.LoopIn
import Derived.Lib.Hide
set_option linter.unusedVariables false
namespace Go.Proofs.YtpkkoiljombooaaDoor.G
open Go.RowKit Go.Proofs.YtpkkoiljombooaaDoorW.PrintWords Go.Proofs.YtpkkoiljombooaaDoorW.PrintLast
attribute [local go_sem] Oper.semAt_some
theorem room_of_none {F : Fence} (hd : F.depth = none) (k : Nat) : F.room k := fun d h => by rw [hd] at h; cases h
theorem RoundIn.anyDepth {F : Fence} (hd : F.depth = none) {m m' : Nat} {P : Program} {l : Nat} {f : FuncId} {tmps : Array Value} {assign body : Code} {w : World} {R : Ending → World → Prop}
  (h : RoundIn F m P l f tmps assign body w R) : RoundIn F m' P l f tmps assign body w R := ⟨h.1, fun c cs _ => h.2 c cs (room_of_none hd _)⟩
theorem YieldAt.anyDepth {F : Fence} (hd : F.depth = none) {m : Nat} (m' : Nat) {P : Program} {l : Nat} {args : Array Value} {W : World} {R : Ending → World → Prop} (h : YieldAt F m P l args W R) : YieldAt F m' P l args W R := by
 obtain ⟨fn, tmps, assign, body, hy, hR⟩ := h
 exact ⟨fn, tmps, assign, body, hy, RoundIn.anyDepth hd hR⟩
structure Nv where
 b : Int
 t : Tm
 A : Option Addr
 c : Nat
def Nv.encs (v : Nv) : Array Value := #[.int .i64 v.b, tv v.t v.A v.c]
def Nv.nd (v : Nv) : Nd := (v.b, v.t.f0, v.t.f1, v.t.f2)
def KT (A B : World) : Prop := ∀ (k : Nat) (cs : Array Value) (t : TypeId) (m : Nat × Nat), A.heap[k]? = some (.cells cs t m) → (t = 25 ∨ t = 101 ∨ t = 32) → B.heap[k]? = some (.cells cs t m)
theorem KT.refl (A : World) : KT A A := fun _ _ _ _ h _ => h
theorem KT.trans {A B C : World} (h : KT A B) (k : KT B C) : KT A C := fun i cs t m hi ht => k i cs t m (h i cs t m hi ht) ht
theorem KT.alloc (A : World) (o : Obj) : KT A (A.alloc o) := fun k _ _ _ hk _ => (Below.heap_alloc A o k (Array.getElem?_eq_some_iff.1 hk).1).trans hk
theorem KT.set {A : World} {g : Nat} {t : TypeId} {cs : Array Value} {m : Nat × Nat} (hg : A.heap[g]? = some (.cells cs t m)) (ht : ¬ (t = 25 ∨ t = 101 ∨ t = 32)) (j : Nat) (u : Value) : KT A (A.setCell ⟨g, j, none⟩ u) := by
 intro k cs' t' m' hk ht'
 have hne : k ≠ g := by
  rintro rfl
  rw [hg] at hk
  cases hk
  exact ht ht'
 exact (Below.heap_setCell A ⟨g, j, none⟩ u k hne).trans hk
theorem KT.putObj {A : World} {l : Nat} {o : Obj} (h : A.heap[l]? = some o) (ho : o.isCells = false) (o' : Obj) : KT A (A.putObj l o') := by
 intro k cs t m hk _
 have hne : k ≠ l := by
  rintro rfl
  rw [h] at hk
  cases hk
  cases ho
 exact (World.putObj_heap_other hne).trans hk
def Kp (n₀ : Nat) (A B : World) : Prop := Below n₀ A B ∧ KT A B
theorem Kp.refl (n₀ : Nat) (A : World) : Kp n₀ A A := ⟨Below.refl _ _, KT.refl _⟩
theorem Kp.trans {n₀ : Nat} {A B C : World} (h : Kp n₀ A B) (k : Kp n₀ B C) : Kp n₀ A C := ⟨h.1.trans k.1, h.2.trans k.2⟩
theorem Kp.alloc {n₀ : Nat} {A : World} (h : n₀ ≤ A.heap.size) (o : Obj) : Kp n₀ A (A.alloc o) := ⟨(Below.refl _ _).alloc h o, KT.alloc A o⟩
theorem kp_b {n₀ : Nat} {w : World} (hn : n₀ ≤ w.heap.size) (W : World) (l : Nat) (o o' : Obj) (hl : w.heap.size ≤ l) (h : W.heap[l]? = some o) (hc : o.isCells = false) (_ : o.isWalk = false) : Kp n₀ W (W.putObj l o') :=
 ⟨belowK_b hn W l o o' hl h hc ‹_›, KT.putObj h hc o'⟩
abbrev BoxT (W : World) (B : Nat) (t : Tm) (A : Option Addr) (c : Nat) : Prop := W.heap[B]? = some (.cells #[.int .i64 t.f0, .string t.f1, .int .i64 t.f2, .slice A t.f3.length c] 25 (0, 0))
structure Boxes (W : World) (By Bw l : Nat) : Prop where
 y : W.heap[By]? = some (.cells #[.func (.yield l) #[] #[]] 101 (0, 0))
 w : W.heap[Bw]? = some (.cells #[.func (.func 115) #[] #[.pointer (some ⟨By, 0, none⟩), .pointer (some ⟨Bw, 0, none⟩)]] 32 (0, 0))
theorem Boxes.kept {A B : World} {By Bw l : Nat} (h : Boxes A By Bw l) (k : KT A B) : Boxes B By Bw l := ⟨k _ _ _ _ h.y (by simp), k _ _ _ _ h.w (by simp)⟩
def WalkEnds (J Jx : List Nv → World → Prop) (n₀ : Nat) (pre : List Nv) (b : Int) (t : Tm) (W : World) (e : Ending) (W' : World) : Prop :=
 (e = .returned (.bool true) ∧ ∃ ys, ys.map Nv.nd = nodesT b t ∧ J (pre ++ ys) W' ∧ Kp n₀ W W') ∨ (e = .returned (.bool false) ∧ ∃ ys, ys.map Nv.nd <+: nodesT b t ∧ Jx (pre ++ ys) W')
set_option maxRecDepth 100000 in
set_option maxHeartbeats 4000000 in
theorem walk_step (F : Fence) (hd : F.depth = none) (hF : ∀ f, F.fn f) (hro : F.round = none) (l N : Nat) (w : World) (J Jx : List Nv → World → Prop)
  (hJ : ∀ s W o, J s W → J s (W.alloc o))
  (p : Nd → Bool) (hY : ∀ m pre x W, p x.nd = true → J pre W → pre.length < N → YieldAt F m Tryd.prog l (Nv.encs x) W fun e W' => (e = .returned (.bool true) ∧ J (pre ++ [x]) W' ∧ Kp w.heap.size W W') ∨ (e = .returned (.bool false) ∧ Jx (pre ++ [x]) W'))
  (t : Tm) (hft : fitT t = true)
  (ih : ∀ u, u ∈ t.f3 → ∀ (n : Nat) (b : Int) (A : Option Addr) (c By Bw : Nat) (pre : List Nv) (W : World), lies w A u.f3 → Below w.heap.size w W → Boxes W By Bw l → J pre W → pre.length + (nodesT b u).length ≤ N → (nodesT b u).all p = true →
   CallsIn F n Tryd.prog 115 #[tv u A c, .int .i64 b, .pointer (some ⟨By, 0, none⟩), .pointer (some ⟨Bw, 0, none⟩)] W (WalkEnds J Jx w.heap.size pre b u W))
  (n : Nat) (b : Int) (A : Option Addr) (c By Bw : Nat) (pre : List Nv) (W : World) (hl : lies w A t.f3) (hW : Below w.heap.size w W) (hX : Boxes W By Bw l) (hJ0 : J pre W) (hN : pre.length + (nodesT b t).length ≤ N) (hp : (nodesT b t).all p = true) :
  CallsIn F n Tryd.prog 115 #[tv t A c, .int .i64 b, .pointer (some ⟨By, 0, none⟩), .pointer (some ⟨Bw, 0, none⟩)] W (WalkEnds J Jx w.heap.size pre b t W) := by
 have hdd : ∀ k : Nat, (F.depth.isSome = true → 1 ≤ k) := fun k h => by rw [hd] at h; cases h
 have hlen := (fitT_len hft).1
 have HP := Lib.hid hp
 clear hp
 have HIH := Lib.hid ih
 have HL := yJ hl;clear ih hl
 have hcy : W.cell? ⟨By, 0, none⟩ = some (.func (.yield l) #[] #[]) := (yE hX.y 0).trans rfl
 have hby : By < W.heap.size := blk_lt hX.y
 have hJ1 := hJ pre W (.cells #[.int .i64 t.f0, .string t.f1, .int .i64 t.f2, .slice A t.f3.length c] 25) hJ0
 obtain ⟨fn, tmps, assign, body, hy, hR⟩ := hY (n - 1) pre ⟨b, t, A, c⟩ _ (by have hp := HP.out; rw [nodesT_eq] at hp; simp only [List.all_cons, Bool.and_eq_true] at hp; exact hp.1) hJ1 (by rw [nodesT_eq] at hN; simp at hN; omega)
 dsimp only [Nv.encs] at hy
 have HR := Lib.hid hR
 clear hR
 have HJ := Lib.hid hJ
 have HY := Lib.hid hY
 clear hJ hY hJ0 hJ1
 refine callsIn_of_wp Tryd.func115 rfl (hF _) ?_ hro
 simp only [Tryd.ntmps115, List.size_toArray, List.length_cons, List.length_nil, Nat.reduceAdd, Nat.reduceSub, Array.replicate_succ, Array.replicate_zero, List.push_toArray, List.append_toArray, List.nil_append, List.cons_append]
 gi_wp2_with fail
 refine HR.out.mono ?_
 rintro e W1 (⟨rfl, hJ1, hk1⟩ | ⟨rfl, hx1⟩)
 rotate_left
 ·gi_wp2_with fail
  go_ret
  exact .inr ⟨rfl, [⟨b, t, A, c⟩], by rw [nodesT_eq]; simp [Nv.nd], hx1⟩
 have hbx : BoxT W1 W.heap.size t A c := hk1.2 _ _ _ _ (World.alloc_heap_new W _) (by simp)
 have hX1 : Boxes W1 By Bw l := (hX.kept (KT.alloc _ _)).kept hk1.2
 have hK1 : Kp w.heap.size W W1 := (Kp.alloc hW.size _).trans hk1
 have hcs : W1.cell? ⟨W.heap.size, 3, none⟩ = some (.slice A t.f3.length c) := (yE hbx 3).trans rfl
 have HB := Lib.hid hbx
 have HX := Lib.hid hX1
 have HK := Lib.hid hK1
 have HW := Lib.hid hW
 have HJ1 := Lib.hid hJ1
 clear hbx hX1 hK1 hW hJ1 hk1 hcy hby hX
 gi_wp2_with fail
 gi_loopw [18] (fun i wr => ∃ (k : Nat) (ys : List Nv), k ≤ t.f3.length ∧ i = .int .i64 k ∧ Hid (ys.map Nv.nd ++ nodesL t.f0 b k (t.f3.drop k) = nodesT b t) ∧ Hid (J (pre ++ ys) wr) ∧ Hid (Kp w.heap.size W wr) ∧ Hid (KT W1 wr)) (fun i _ => t.f3.length - (intOf i).toNat)
 case atStart => exact ⟨0, [⟨b, t, A, c⟩], Nat.zero_le _, rfl, Lib.hid (by rw [nodesT_eq]; simp [Nv.nd]), HJ1, HK, Lib.hid (KT.refl _)⟩
 case round =>
  obtain ⟨k, ys, hk, rfl, HYs, HJr, HKr, HKt⟩ := hrel
  by_cases hlt : k < t.f3.length
  ·have hwr : Below w.heap.size w wr := HW.out.trans HKr.out.1
   obtain ⟨u, ad, A3, c3, hu, ea, h0, h1, h2, h3, hl3, hg⟩ := elem_at HL.out k hlt
   have h0' := pw_cell_below hwr h0
   have h1' := pw_cell_below hwr h1
   have h2' := pw_cell_below hwr h2
   have h3' := pw_cell_below hwr h3
   have hbr : BoxT wr W.heap.size t A c := HKt.out _ _ _ _ HB.out (by simp)
   have hXr : Boxes wr By Bw l := HX.out.kept HKt.out
   have hb0 : wr.cell? ⟨W.heap.size, 0, none⟩ = some (.int .i64 t.f0) := (yE hbr 0).trans rfl
   have hbs : W.heap.size < wr.heap.size := blk_lt hbr
   have hcw : wr.cell? ⟨Bw, 0, none⟩ = some (.func (.func 115) #[] #[.pointer (some ⟨By, 0, none⟩), .pointer (some ⟨Bw, 0, none⟩)]) := (yE hXr.w 0).trans rfl
   have hbw : Bw < wr.heap.size := blk_lt hXr.w
   have HU := Lib.hid hu
   have HG := Lib.hid hg
   have HL3 := Lib.hid hl3
   have HWR := Lib.hid hwr
   have HXr := Lib.hid hXr
   have hdr : t.f3.drop k = u :: t.f3.drop (k + 1) := by
    rw [List.drop_eq_getElem_cons hlt]; congr 1
    rw [List.getElem?_eq_getElem hlt] at hu; exact Option.some.inj hu
   have HD := Lib.hid hdr
   have hPs : Hid (∀ β, innerB t.f0 b k = β → (nodesT β u).all p = true) := Lib.hid (by
    intro β hβ
    have e1 := HYs.out
    rw [hdr] at e1
    have e2 := HP.out
    rw [← e1] at e2
    simp only [nodesL, hβ, List.all_append, Bool.and_eq_true] at e2
    exact e2.2.1)
   have hNs : Hid (∀ β, innerB t.f0 b k = β → (pre ++ ys).length + (nodesT β u).length ≤ N) := Lib.hid (by
    intro β hβ
    have e1 := congrArg List.length HYs.out
    rw [hdr] at e1
    simp only [nodesL, hβ, List.length_append, List.length_map] at e1
    simp only [List.length_append]
    omega)
   clear h0 h1 h2 h3 hwr hbr hXr hu hg hl3 hdr;subst ea
   by_cases k3 : t.f0 = 3
   ·have k3b : (t.f0 == 3) = true := beq_iff_eq.mpr k3
    have HI : Hid (innerB t.f0 b k = wrap64 (b + 1)) := Lib.hid (by simp [innerB, k3])
    clear k3
    gi_wp2_with fail
    refine (HIH.out u (List.mem_of_getElem? HU.out) (n - 1) (wrap64 (b + 1)) A3 c3 By Bw (pre ++ ys) _ HG.out (HWR.out.trans ((Below.refl _ _).alloc HWR.out.size _)) (HXr.out.kept (KT.alloc _ _)) (HJ.out _ _ _ HJr.out) (hNs.out _ HI.out) (hPs.out _ HI.out)).mono ?_
    rintro e W2 (⟨rfl, zs, hzs, hJ2, hk2⟩ | ⟨rfl, zs, hzs, hx2⟩)
    ·have HZ := Lib.hid hzs
     clear hzs
     gi_wp2_with fail
     go_roundw
     case rel => exact ⟨k + 1, ys ++ zs, by omega, by go_num, Lib.hid (by rw [← HYs.out, HD.out]; simp [nodesL, HI.out, HZ.out]), Lib.hid (by rw [← List.append_assoc]; exact hJ2), Lib.hid (HKr.out.trans ((Kp.alloc HWR.out.size _).trans hk2)), Lib.hid (HKt.out.trans ((KT.alloc _ _).trans hk2.2))⟩
     case measure => simp [intOf]; omega
    ·have HZ := Lib.hid hzs
     clear hzs
     gi_wp2_with fail
     go_ret
     exact .inr ⟨rfl, ys ++ zs, by rw [← HYs.out, HD.out, List.map_append, nodesL, HI.out]; exact (List.prefix_append_right_inj _).mpr (HZ.out.trans (List.prefix_append _ _)), by rw [← List.append_assoc]; exact hx2⟩
   ·have k3b : (t.f0 == 3) = false := beq_eq_false_iff_ne.mpr k3
    by_cases k2 : t.f0 = 2
    ·have k2b : (t.f0 == 2) = true := beq_iff_eq.mpr k2
     by_cases k1 : k = 1
     ·have k1b : ((k : Int) == 1) = true := beq_iff_eq.mpr (by omega)
      have HI : Hid (innerB t.f0 b k = wrap64 (b + 1)) := Lib.hid (by simp [innerB, k2, k1])
      clear k3 k2 k1
      gi_wp2_with fail
      refine (HIH.out u (List.mem_of_getElem? HU.out) (n - 1) (wrap64 (b + 1)) A3 c3 By Bw (pre ++ ys) _ HG.out (HWR.out.trans ((Below.refl _ _).alloc HWR.out.size _)) (HXr.out.kept (KT.alloc _ _)) (HJ.out _ _ _ HJr.out) (hNs.out _ HI.out) (hPs.out _ HI.out)).mono ?_
      rintro e W2 (⟨rfl, zs, hzs, hJ2, hk2⟩ | ⟨rfl, zs, hzs, hx2⟩)
      ·have HZ := Lib.hid hzs
       clear hzs
       gi_wp2_with fail
       go_roundw
       case rel => exact ⟨k + 1, ys ++ zs, by omega, by go_num, Lib.hid (by rw [← HYs.out, HD.out]; simp [nodesL, HI.out, HZ.out]), Lib.hid (by rw [← List.append_assoc]; exact hJ2), Lib.hid (HKr.out.trans ((Kp.alloc HWR.out.size _).trans hk2)), Lib.hid (HKt.out.trans ((KT.alloc _ _).trans hk2.2))⟩
       case measure => simp [intOf]; omega
      ·have HZ := Lib.hid hzs
       clear hzs
       gi_wp2_with fail
       go_ret
       exact .inr ⟨rfl, ys ++ zs, by rw [← HYs.out, HD.out, List.map_append, nodesL, HI.out]; exact (List.prefix_append_right_inj _).mpr (HZ.out.trans (List.prefix_append _ _)), by rw [← List.append_assoc]; exact hx2⟩
     ·have k1b : ((k : Int) == 1) = false := beq_eq_false_iff_ne.mpr (by omega)
      have HI : Hid (innerB t.f0 b k = b) := Lib.hid (by simp [innerB, k2, k1])
      clear k3 k2 k1
      gi_wp2_with fail
      refine (HIH.out u (List.mem_of_getElem? HU.out) (n - 1) b A3 c3 By Bw (pre ++ ys) _ HG.out (HWR.out.trans ((Below.refl _ _).alloc HWR.out.size _)) (HXr.out.kept (KT.alloc _ _)) (HJ.out _ _ _ HJr.out) (hNs.out _ HI.out) (hPs.out _ HI.out)).mono ?_
      rintro e W2 (⟨rfl, zs, hzs, hJ2, hk2⟩ | ⟨rfl, zs, hzs, hx2⟩)
      ·have HZ := Lib.hid hzs
       clear hzs
       gi_wp2_with fail
       go_roundw
       case rel => exact ⟨k + 1, ys ++ zs, by omega, by go_num, Lib.hid (by rw [← HYs.out, HD.out]; simp [nodesL, HI.out, HZ.out]), Lib.hid (by rw [← List.append_assoc]; exact hJ2), Lib.hid (HKr.out.trans ((Kp.alloc HWR.out.size _).trans hk2)), Lib.hid (HKt.out.trans ((KT.alloc _ _).trans hk2.2))⟩
       case measure => simp [intOf]; omega
      ·have HZ := Lib.hid hzs
       clear hzs
       gi_wp2_with fail
       go_ret
       exact .inr ⟨rfl, ys ++ zs, by rw [← HYs.out, HD.out, List.map_append, nodesL, HI.out]; exact (List.prefix_append_right_inj _).mpr (HZ.out.trans (List.prefix_append _ _)), by rw [← List.append_assoc]; exact hx2⟩
    ·have k2b : (t.f0 == 2) = false := beq_eq_false_iff_ne.mpr k2
     have HI : Hid (innerB t.f0 b k = b) := Lib.hid (by simp [innerB, k3, k2])
     clear k3 k2
     gi_wp2_with fail
     refine (HIH.out u (List.mem_of_getElem? HU.out) (n - 1) b A3 c3 By Bw (pre ++ ys) _ HG.out (HWR.out.trans ((Below.refl _ _).alloc HWR.out.size _)) (HXr.out.kept (KT.alloc _ _)) (HJ.out _ _ _ HJr.out) (hNs.out _ HI.out) (hPs.out _ HI.out)).mono ?_
     rintro e W2 (⟨rfl, zs, hzs, hJ2, hk2⟩ | ⟨rfl, zs, hzs, hx2⟩)
     ·have HZ := Lib.hid hzs
      clear hzs
      gi_wp2_with fail
      go_roundw
      case rel => exact ⟨k + 1, ys ++ zs, by omega, by go_num, Lib.hid (by rw [← HYs.out, HD.out]; simp [nodesL, HI.out, HZ.out]), Lib.hid (by rw [← List.append_assoc]; exact hJ2), Lib.hid (HKr.out.trans ((Kp.alloc HWR.out.size _).trans hk2)), Lib.hid (HKt.out.trans ((KT.alloc _ _).trans hk2.2))⟩
      case measure => simp [intOf]; omega
     ·have HZ := Lib.hid hzs
      clear hzs
      gi_wp2_with fail
      go_ret
      exact .inr ⟨rfl, ys ++ zs, by rw [← HYs.out, HD.out, List.map_append, nodesL, HI.out]; exact (List.prefix_append_right_inj _).mpr (HZ.out.trans (List.prefix_append _ _)), by rw [← List.append_assoc]; exact hx2⟩
  ·have he : k = t.f3.length := by omega
   have HE := Lib.hid he
   clear he
   gi_wp2_with fail
   go_ret
   exact .inl ⟨rfl, ys, by have := HYs.out; rw [HE.out] at this; simpa [nodesL] using this, HJr.out, HKr.out⟩
theorem walk_any (F : Fence) (hd : F.depth = none) (hF : ∀ f, F.fn f) (hro : F.round = none) (l N : Nat) (w : World) (J Jx : List Nv → World → Prop)
  (hJ : ∀ s W o, J s W → J s (W.alloc o))
  (p : Nd → Bool) (hY : ∀ m pre x W, p x.nd = true → J pre W → pre.length < N → YieldAt F m Tryd.prog l (Nv.encs x) W fun e W' => (e = .returned (.bool true) ∧ J (pre ++ [x]) W' ∧ Kp w.heap.size W W') ∨ (e = .returned (.bool false) ∧ Jx (pre ++ [x]) W')) :
  ∀ (z : Nat) (t : Tm), SizeOf.sizeOf t < z → fitT t = true → ∀ (n : Nat) (b : Int) (A : Option Addr) (c By Bw : Nat) (pre : List Nv) (W : World), lies w A t.f3 → Below w.heap.size w W → Boxes W By Bw l → J pre W → pre.length + (nodesT b t).length ≤ N → (nodesT b t).all p = true →
   CallsIn F n Tryd.prog 115 #[tv t A c, .int .i64 b, .pointer (some ⟨By, 0, none⟩), .pointer (some ⟨Bw, 0, none⟩)] W (WalkEnds J Jx w.heap.size pre b t W) := by
 intro z
 induction z with
 | zero => intro t h; omega
 | succ z ih =>
  intro t hz hf
  exact walk_step F hd hF hro l N w J Jx hJ p hY t hf (fun u hu => ih u (by have := sizeOf_arg hu; omega) (fitL_mem (fitT_len hf).2 u hu))
end Go.Proofs.YtpkkoiljombooaaDoor.G
