import Derived.Test.YtpkkoiljombooaaDoorKG0
import Derived.Test.YtpkkoiljombooaaDoorKG6
import Derived.Test.YtpkkoiljombooaaDoorKMw
set_option linter.unusedVariables false
set_option linter.unusedSimpArgs false
namespace Go.Proofs.YtpkkoiljombooaaDoor.G
open Go.RowKit Go.Proofs.YtpkkoiljombooaaDoorW.PrintWords Go.Proofs.YtpkkoiljombooaaDoorW.PrintLast Go.Proofs.YtpkkoiljombooaaDoorW.PrintMore
def shF (by_ from_ : Int) (x : Int) : Int × Bool := if x < from_ then (x, true) else (wrap64 (x + by_), decide (by_ ≤ 1048576))
def loF (from_ n : Int) (x : Int) : Int × Bool := if x < from_ then (x, true) else (wrap64 (x - n), decide (wrap64 (x - from_) ≥ n))
def rnF (to_ : List Int) (x : Int) : Int × Bool := if x ≥ to_.length then (0, false) else (rd to_ x, true)
theorem hf_sh (a : Array Value) (W : World) : Sem.run Tryd.prog (callFunc 101 a) W = .ok (.enter 101 a) W := by kernel_rfl
theorem hf_lo (a : Array Value) (W : World) : Sem.run Tryd.prog (callFunc 104 a) W = .ok (.enter 104 a) W := by kernel_rfl
theorem hf_rn (a : Array Value) (W : World) : Sem.run Tryd.prog (callFunc 106 a) W = .ok (.enter 106 a) W := by kernel_rfl
set_option maxHeartbeats 4000000 in
set_option maxRecDepth 100000 in
theorem sh_calls (by_ from_ x : Int) (p q : Nat) (W : World) (hp : W.cell? ⟨p, 0, none⟩ = some (.int .i64 from_)) (hq : W.cell? ⟨q, 0, none⟩ = some (.int .i64 by_)) :
  Calls Tryd.prog 101 (#[.int .i64 x] ++ #[.pointer (some ⟨p, 0, none⟩), .pointer (some ⟨q, 0, none⟩)]) W fun e W' => e = .returned (.tuple #[.int .i64 (shF by_ from_ x).1, .bool (shF by_ from_ x).2]) ∧ Below W.heap.size W W' := by
 show Calls Tryd.prog 101 #[.int .i64 x, .pointer (some ⟨p, 0, none⟩), .pointer (some ⟨q, 0, none⟩)] W _
 have l1 := World.block_lt_of_cell? _ _ hp
 have l2 := World.block_lt_of_cell? _ _ hq
 by_cases h : x < from_
 ·have hd : decide (x < from_) = true := decide_eq_true h
  have HS : Hid (shF by_ from_ x = (x, true)) := Lib.hid (by simp only [shF, if_pos h])
  clear h
  go_enter Tryd.func101, Tryd.ntmps101
  go_wp2_with fail
  go_ret2
  rw [HS.out]
  exact ⟨rfl, Below.refl _ _⟩
 ·have hd : decide (x < from_) = false := decide_eq_false h
  have HS : Hid (shF by_ from_ x = (wrap64 (x + by_), decide (by_ ≤ 1048576))) := Lib.hid (by simp only [shF, if_neg h])
  clear h
  go_enter Tryd.func101, Tryd.ntmps101
  go_wp2_with fail
  go_region_held3 (fun W' => W'.cell? ⟨p, 0, none⟩ = some (.int .i64 from_) ∧ W'.cell? ⟨q, 0, none⟩ = some (.int .i64 by_)) (first | exact ⟨hp, hq⟩) (first | fail)
  go_wp2_with fail
  go_ret2
  rw [HS.out]
  refine ⟨?_, below_drew (Below.refl _ _)⟩
  simp [IntKind.wrap_i64, wrap64]
set_option maxHeartbeats 4000000 in
set_option maxRecDepth 100000 in
theorem lo_calls (from_ n x : Int) (p q : Nat) (W : World) (hp : W.cell? ⟨p, 0, none⟩ = some (.int .i64 from_)) (hq : W.cell? ⟨q, 0, none⟩ = some (.int .i64 n)) :
  Calls Tryd.prog 104 (#[.int .i64 x] ++ #[.pointer (some ⟨p, 0, none⟩), .pointer (some ⟨q, 0, none⟩)]) W fun e W' => e = .returned (.tuple #[.int .i64 (loF from_ n x).1, .bool (loF from_ n x).2]) ∧ Below W.heap.size W W' := by
 show Calls Tryd.prog 104 #[.int .i64 x, .pointer (some ⟨p, 0, none⟩), .pointer (some ⟨q, 0, none⟩)] W _
 have l1 := World.block_lt_of_cell? _ _ hp
 have l2 := World.block_lt_of_cell? _ _ hq
 by_cases h : x < from_
 ·have hd : decide (x < from_) = true := decide_eq_true h
  have HS : Hid (loF from_ n x = (x, true)) := Lib.hid (by simp only [loF, if_pos h])
  clear h
  go_enter Tryd.func104, Tryd.ntmps104
  go_wp2_with fail
  go_ret2
  rw [HS.out]
  exact ⟨rfl, Below.refl _ _⟩
 ·have hd : decide (x < from_) = false := decide_eq_false h
  have HS : Hid (loF from_ n x = (wrap64 (x - n), decide (wrap64 (x - from_) ≥ n))) := Lib.hid (by simp only [loF, if_neg h])
  clear h
  go_enter Tryd.func104, Tryd.ntmps104
  go_wp2_with fail
  go_region_held3 (fun W' => W'.cell? ⟨p, 0, none⟩ = some (.int .i64 from_) ∧ W'.cell? ⟨q, 0, none⟩ = some (.int .i64 n)) (first | exact ⟨hp, hq⟩) (first | fail)
  go_wp2_with fail
  go_ret2
  rw [HS.out]
  refine ⟨?_, below_drew (Below.refl _ _)⟩
  simp [IntKind.wrap_i64, wrap64]
set_option maxHeartbeats 4000000 in
set_option maxRecDepth 100000 in
theorem rn_calls (to_ : List Int) (x : Int) (hx : 0 ≤ x) (p : Nat) (A : Option Addr) (c : Nat) (W : World) (hp : W.cell? ⟨p, 0, none⟩ = some (.slice A to_.length c)) (hC : Kd.C (Kd.int .i64) W A to_.length to_) :
  Calls Tryd.prog 106 (#[.int .i64 x] ++ #[.pointer (some ⟨p, 0, none⟩)]) W fun e W' => e = .returned (.tuple #[.int .i64 (rnF to_ x).1, .bool (rnF to_ x).2]) ∧ Below W.heap.size W W' := by
 show Calls Tryd.prog 106 #[.int .i64 x, .pointer (some ⟨p, 0, none⟩)] W _
 have l1 := World.block_lt_of_cell? _ _ hp
 by_cases h : x ≥ to_.length
 ·have hd : decide (x ≥ to_.length) = true := decide_eq_true h
  have HS : Hid (rnF to_ x = (0, false)) := Lib.hid (by simp only [rnF, if_pos h])
  go_enter Tryd.func106, Tryd.ntmps106
  go_wp2_with fail
  go_ret2
  rw [HS.out]
  exact ⟨rfl, Below.refl _ _⟩
 ·have hd : decide (x ≥ to_.length) = false := decide_eq_false h
  have HS : Hid (rnF to_ x = (rd to_ x, true)) := Lib.hid (by simp only [rnF, if_neg h])
  obtain ⟨am, ea, hcm⟩ := Kd.at_int hC x hx (by omega)
  subst ea
  obtain ⟨k, rfl⟩ : ∃ k : Nat, x = k := ⟨x.toNat, by omega⟩
  rw [Int.toNat_natCast] at hcm
  have h2 : k < to_.length := by omega
  go_enter Tryd.func106, Tryd.ntmps106
  go_wp2_with fail
  go_ret2
  rw [HS.out]
  exact ⟨rfl, Below.refl _ _⟩
theorem xT_true : ∀ (n : Nat) (t : Tm), nT t ≤ n → ∀ b, xT (fun _ => true) b t = true := by
 intro n
 induction n with
 | zero => intro t h; rw [nT_eq] at h; omega
 | succ n ih =>
  intro t h b
  rw [xT_eq, Bool.or_true, Bool.true_and]
  have h1 := nT_eq t
  have key : ∀ (l : List Tm) (j : Nat), nTs l ≤ n → xL (fun _ => true) t.f0 b j l = true := by
   intro l
   induction l with
   | nil => intro j _; rfl
   | cons u us ihl =>
    intro j hl
    simp only [nTs] at hl
    simp only [xL, ih u (by omega), ihl (j + 1) (by omega), Bool.and_self]
  exact key _ _ (by omega)
abbrev shW (W : World) (t : Tm) (v u1 u2 : Value) : World := (((W.alloc (.cells #[.int .i64 t.f0, .string t.f1, .int .i64 t.f2, v] 25)).alloc (.cells #[u1] 3)).alloc (.cells #[u2] 3)).alloc (.cells #[.int .i64 0, .string ⟨#[]⟩, .int .i64 0, .slice none 0 0] 25)
structure Sb (W : World) (t : Tm) (v u1 u2 : Value) (W1 : World) : Prop where
 be : Below W.heap.size W W1
 b0 : W1.heap[W.heap.size]? = some (.cells #[.int .i64 t.f0, .string t.f1, .int .i64 t.f2, v] 25 (0, 0))
 b1 : W1.heap[W.heap.size + 1]? = some (.cells #[u1] 3 (0, 0))
 b2 : W1.heap[W.heap.size + 1 + 1]? = some (.cells #[u2] 3 (0, 0))
 b3 : W1.heap[W.heap.size + 1 + 1 + 1]? = some (.cells #[.int .i64 0, .string ⟨#[]⟩, .int .i64 0, .slice none 0 0] 25 (0, 0))
theorem Sb.new (W : World) (t : Tm) (v u1 u2 : Value) : Sb W t v u1 u2 (shW W t v u1 u2) :=
 ⟨yF (yF (yF (yF (Below.refl _ _) _) _) _) _, yC (yC (yC (blk_new _ _) _) _) _, yC (yC (new_at _ (by simp)) _) _, yC (new_at _ (by simp)) _, new_at _ (by simp)⟩
theorem Sb.below {W W1 W2 : World} {t : Tm} {v u1 u2 : Value} (h : Sb W t v u1 u2 W1) (hb : Below W1.heap.size W1 W2) : Sb W t v u1 u2 W2 :=
 ⟨h.be.trans ⟨hb.os, hb.tape, hb.output, hb.size, fun k hk => hb.block k (Nat.lt_of_lt_of_le hk h.be.size)⟩, blk_below h.b0 hb, blk_below h.b1 hb, blk_below h.b2 hb, blk_below h.b3 hb⟩
theorem Sb.facts {W W1 : World} {t : Tm} {v u1 u2 : Value} (h : Sb W t v u1 u2 W1) :
  (W1.cell? ⟨W.heap.size, 0, none⟩ = some (.int .i64 t.f0) ∧ W1.cell? ⟨W.heap.size, 1, none⟩ = some (.string t.f1) ∧ W1.cell? ⟨W.heap.size, 2, none⟩ = some (.int .i64 t.f2) ∧ W1.cell? ⟨W.heap.size, 3, none⟩ = some v) ∧
  (W1.cell? ⟨W.heap.size + 1, 0, none⟩ = some u1 ∧ W1.cell? ⟨W.heap.size + 1 + 1, 0, none⟩ = some u2) ∧
  (W1.cell? ⟨W.heap.size + 1 + 1 + 1, 0, none⟩ = some (.int .i64 0) ∧ W1.cell? ⟨W.heap.size + 1 + 1 + 1, 1, none⟩ = some (.string ⟨#[]⟩) ∧ W1.cell? ⟨W.heap.size + 1 + 1 + 1, 2, none⟩ = some (.int .i64 0) ∧ W1.cell? ⟨W.heap.size + 1 + 1 + 1, 3, none⟩ = some (.slice none 0 0)) ∧
  (W1.frozen? ⟨W.heap.size + 1 + 1 + 1, 0, none⟩ = false ∧ W1.frozen? ⟨W.heap.size + 1 + 1 + 1, 1, none⟩ = false ∧ W1.frozen? ⟨W.heap.size + 1 + 1 + 1, 2, none⟩ = false ∧ W1.frozen? ⟨W.heap.size + 1 + 1 + 1, 3, none⟩ = false) ∧ W.heap.size + 1 + 1 + 1 < W1.heap.size :=
 ⟨⟨(yE h.b0 0).trans rfl, (yE h.b0 1).trans rfl, (yE h.b0 2).trans rfl, (yE h.b0 3).trans rfl⟩, ⟨(yE h.b1 0).trans rfl, (yE h.b2 0).trans rfl⟩, ⟨(yE h.b3 0).trans rfl, (yE h.b3 1).trans rfl, (yE h.b3 2).trans rfl, (yE h.b3 3).trans rfl⟩, ⟨yD h.b3 _, yD h.b3 _, yD h.b3 _, yD h.b3 _⟩, blk_lt h.b3⟩
def ShiftEnds (by_ from_ : Int) (t : Tm) (P : Nat → Prop) (W : World) (e : Ending) (W' : World) : Prop :=
 Below W.heap.size W W' ∧
 ((wfE t = 0 ∧ 0 ≤ by_ ∧ 0 ≤ from_ ∧ okM (shF by_ from_) 0 t = true ∧ ∃ v, e = .returned (.tuple #[.agg #[.int .i64 t.f0, .string t.f1, .int .i64 (mvI (shF by_ from_) 0 t.f0 t.f2), v], .int .i64 0]) ∧ Kd.N k25 25 W' W.heap.size (fun k => P k ∨ W.heap.size ≤ k) v (mvL (shF by_ from_) t.f0 0 0 t.f3)) ∨
  (wfE t ≠ 0 ∧ e = .returned (.tuple #[.agg #[.int .i64 0, .string ⟨#[]⟩, .int .i64 0, .slice none 0 0], .int .i64 (wfE t)])) ∨
  (wfE t = 0 ∧ ¬ (0 ≤ by_ ∧ 0 ≤ from_ ∧ okM (shF by_ from_) 0 t = true) ∧ e = .returned (.tuple #[.agg #[.int .i64 0, .string ⟨#[]⟩, .int .i64 0, .slice none 0 0], .int .i64 5])))
set_option maxHeartbeats 4000000 in
set_option maxRecDepth 100000 in
theorem shift_calls (by_ from_ : Int) (t : Tm) (hn : nT t ≤ 1000000) (A : Option Addr) (c : Nat) (P : Nat → Prop) (W : World) (kw : Nat) (hw : term_WellFormed.f kw t.f0 t.f1 t.f2 t.f3 = some (wfE t))
  (hF : Kd.F k25 W P A t.f3.length t.f3) (hc : t.f3.length ≤ c) (hP : ∀ k, P k → k < W.heap.size) :
  Calls Tryd.prog 61 #[.agg #[.int .i64 t.f0, .string t.f1, .int .i64 t.f2, .slice A t.f3.length c], .int .i64 by_, .int .i64 from_] W (ShiftEnds by_ from_ t P W) := by
 have HF := Lib.hid hF
 have HP := Lib.hid hP
 have HC := Lib.hid hc
 have HW := Lib.hid hw
 have hw3 : W.heap.size ≤ W.heap.size + 1 + 1 + 1 := by omega
 clear hF hP hc hw
 go_enter Tryd.func61, Tryd.ntmps61
 go_wp2_with fail
 refine (term_WellFormed.calls kw t.f0 t.f1 t.f2 A c t.f3 (wfE t) _ (Kd.F_now (Kd.F_alloc (Kd.F_alloc (Kd.F_alloc (Kd.F_alloc HF.out _) _) _) _)) HC.out HW.out).mono ?_
 rintro e W1 ⟨rfl, hb⟩
 have HS := Lib.hid ((Sb.new W t (.slice A t.f3.length c) (.int .i64 by_) (.int .i64 from_)).below hb)
 clear hb
 by_cases hz : wfE t = 0
 ·have hzb : (wfE t == 0) = true := beq_iff_eq.mpr hz
  have HZ := Lib.hid hz
  clear hz
  by_cases h1 : by_ < 0
  ·have h1b : decide (by_ < 0) = true := decide_eq_true h1
   obtain ⟨⟨a0, a1, a2, a3⟩, ⟨b1, b2⟩, ⟨r0, r1, r2, r3⟩, ⟨z0, z1, z2, z3⟩, hl⟩ := HS.out.facts
   go_wp2_with fail
   have HE := Lib.hid (blk4 0 ⟨#[]⟩ 0 (.slice none 0 0) HS.out.b3)
   have e0 := yE HE.out 0
   have e1 := yE HE.out 1
   have e2 := yE HE.out 2
   have e3 := yE HE.out 3
   refine bodyPost_ret (v := .tuple #[.agg #[.int .i64 0, .string ⟨#[]⟩, .int .i64 0, .slice none 0 0], .int .i64 5]) ?_ rfl ⟨(((HS.out.be.setCell hw3 _).setCell hw3 _).setCell hw3 _).setCell hw3 _, .inr (.inr ⟨HZ.out, fun h => by omega, rfl⟩)⟩
   simp [results, Tryd.f61, go_sem, e0, e1, e2, e3]
  ·have h1b : decide (by_ < 0) = false := decide_eq_false h1
   by_cases h2 : from_ < 0
   ·have h2b : decide (from_ < 0) = true := decide_eq_true h2
    obtain ⟨⟨a0, a1, a2, a3⟩, ⟨b1, b2⟩, ⟨r0, r1, r2, r3⟩, ⟨z0, z1, z2, z3⟩, hl⟩ := HS.out.facts
    go_wp2_with fail
    have HE := Lib.hid (blk4 0 ⟨#[]⟩ 0 (.slice none 0 0) HS.out.b3)
    have e0 := yE HE.out 0
    have e1 := yE HE.out 1
    have e2 := yE HE.out 2
    have e3 := yE HE.out 3
    refine bodyPost_ret (v := .tuple #[.agg #[.int .i64 0, .string ⟨#[]⟩, .int .i64 0, .slice none 0 0], .int .i64 5]) ?_ rfl ⟨(((HS.out.be.setCell hw3 _).setCell hw3 _).setCell hw3 _).setCell hw3 _, .inr (.inr ⟨HZ.out, fun h => by omega, rfl⟩)⟩
    simp [results, Tryd.f61, go_sem, e0, e1, e2, e3]
   ·have h2b : decide (from_ < 0) = false := decide_eq_false h2
    obtain ⟨⟨a0, a1, a2, a3⟩, ⟨b1, b2⟩, ⟨r0, r1, r2, r3⟩, ⟨z0, z1, z2, z3⟩, hl⟩ := HS.out.facts
    go_wp2_with fail
    refine (move_calls 101 #[.pointer (some ⟨W.heap.size + 1 + 1, 0, none⟩), .pointer (some ⟨W.heap.size + 1, 0, none⟩)] (shF by_ from_) hf_sh t hn A c P W1 (fun _ => true) (xT_true (nT t) t (Nat.le_refl _) 0) (fun W' x _ hb => sh_calls by_ from_ x _ _ W' (pw_cell_below hb b2) (pw_cell_below hb b1)) (Kd.F_below HF.out HS.out.be) HC.out (fun k hk => Nat.lt_of_lt_of_le (HP.out k hk) HS.out.be.size)).mono ?_
    rintro e W2 ⟨hb2, hmv⟩
    have HS2 := Lib.hid (HS.out.below hb2)
    have hsz := HS.out.be.size;have hl1 := hl;clear hb2 a0 a1 a2 a3 b1 b2 r0 r1 r2 r3 z0 z1 z2 z3 hl HS
    rcases hmv with ⟨hok, v, rfl, hN⟩ | ⟨hok, rfl⟩
    ·obtain ⟨A1, cc, rfl⟩ := Kd.N_slice hN
     have HN := Lib.hid (Kd.N_mono (ok' := fun k => P k ∨ W.heap.size + 1 + 1 + 1 + 1 ≤ k) (Kd.N_lower hN hsz) (fun _ h => h.imp id (fun h => by omega)))
     have HO := Lib.hid hok
     clear hN hok
     obtain ⟨⟨a0, a1, a2, a3⟩, ⟨b1, b2⟩, ⟨r0, r1, r2, r3⟩, ⟨z0, z1, z2, z3⟩, hl⟩ := HS2.out.facts
     go_wp2_with fail
     have HE := Lib.hid (yC (blk4 t.f0 t.f1 (mvI (shF by_ from_) 0 t.f0 t.f2) (.slice A1 (mvL (shF by_ from_) t.f0 0 0 t.f3).length cc) HS2.out.b3) (.cells #[.int .i64 t.f0, .string t.f1, .int .i64 (mvI (shF by_ from_) 0 t.f0 t.f2), .slice A1 (mvL (shF by_ from_) t.f0 0 0 t.f3).length cc] 25))
     have e0 := yE HE.out 0
     have e1 := yE HE.out 1
     have e2 := yE HE.out 2
     have e3 := yE HE.out 3
     have HQ := Lib.hid (mw_fin (o := .cells #[.int .i64 t.f0, .string t.f1, .int .i64 (mvI (shF by_ from_) 0 t.f0 t.f2), .slice A1 (mvL (shF by_ from_) t.f0 0 0 t.f3).length cc] 25) hw3 HP.out HS2.out.be HN.out (.int .i64 t.f0) (.string t.f1) (.int .i64 (mvI (shF by_ from_) 0 t.f0 t.f2)) (.slice A1 (mvL (shF by_ from_) t.f0 0 0 t.f3).length cc))
     refine bodyPost_ret (v := .tuple #[.agg #[.int .i64 t.f0, .string t.f1, .int .i64 (mvI (shF by_ from_) 0 t.f0 t.f2), .slice A1 (mvL (shF by_ from_) t.f0 0 0 t.f3).length cc], .int .i64 0]) ?_ rfl ⟨HQ.out.1, .inl ⟨HZ.out, by omega, by omega, HO.out, _, rfl, HQ.out.2⟩⟩
     simp [results, Tryd.f61, go_sem, e0, e1, e2, e3]
    ·have HO := Lib.hid hok
     clear hok
     obtain ⟨⟨a0, a1, a2, a3⟩, ⟨b1, b2⟩, ⟨r0, r1, r2, r3⟩, ⟨z0, z1, z2, z3⟩, hl⟩ := HS2.out.facts
     go_wp2_with fail
     have HE := Lib.hid (yC (blk4 0 ⟨#[]⟩ 0 (.slice none 0 0) HS2.out.b3) (.cells #[.int .i64 0, .string ⟨#[]⟩, .int .i64 0, .slice none 0 0] 25))
     have e0 := yE HE.out 0
     have e1 := yE HE.out 1
     have e2 := yE HE.out 2
     have e3 := yE HE.out 3
     refine bodyPost_ret (v := .tuple #[.agg #[.int .i64 0, .string ⟨#[]⟩, .int .i64 0, .slice none 0 0], .int .i64 5]) ?_ rfl ⟨yF ((((HS2.out.be.setCell hw3 _).setCell hw3 _).setCell hw3 _).setCell hw3 _) _, .inr (.inr ⟨HZ.out, fun h => by rw [HO.out] at h; exact absurd h.2.2 (by decide), rfl⟩)⟩
     simp [results, Tryd.f61, go_sem, e0, e1, e2, e3]
 ·have hzb : (wfE t == 0) = false := beq_eq_false_iff_ne.mpr hz
  have HZ := Lib.hid hz
  clear hz
  obtain ⟨⟨a0, a1, a2, a3⟩, ⟨b1, b2⟩, ⟨r0, r1, r2, r3⟩, ⟨z0, z1, z2, z3⟩, hl⟩ := HS.out.facts
  go_wp2_with fail
  have HE := Lib.hid (blk4 0 ⟨#[]⟩ 0 (.slice none 0 0) HS.out.b3)
  have e0 := yE HE.out 0
  have e1 := yE HE.out 1
  have e2 := yE HE.out 2
  have e3 := yE HE.out 3
  refine bodyPost_ret (v := .tuple #[.agg #[.int .i64 0, .string ⟨#[]⟩, .int .i64 0, .slice none 0 0], .int .i64 (wfE t)]) ?_ rfl ⟨(((HS.out.be.setCell hw3 _).setCell hw3 _).setCell hw3 _).setCell hw3 _, .inr (.inl ⟨HZ.out, rfl⟩)⟩
  simp [results, Tryd.f61, go_sem, e0, e1, e2, e3]
theorem mw_fin0 {W W2 : World} {g : Nat} {P : Nat → Prop} {v : Value} {L : List Tm} (hW : W.heap.size ≤ g) (hP : ∀ k, P k → k < W.heap.size) (hB : Below W.heap.size W W2) (hN : Kd.N k25 25 W2 W.heap.size (fun k => P k ∨ g + 1 ≤ k) v L) (u0 u1 u2 u3 : Value) :
  Below W.heap.size W ((((W2.setCell ⟨g, 0, none⟩ u0).setCell ⟨g, 1, none⟩ u1).setCell ⟨g, 2, none⟩ u2).setCell ⟨g, 3, none⟩ u3) ∧ Kd.N k25 25 ((((W2.setCell ⟨g, 0, none⟩ u0).setCell ⟨g, 1, none⟩ u1).setCell ⟨g, 2, none⟩ u2).setCell ⟨g, 3, none⟩ u3) W.heap.size (fun k => P k ∨ W.heap.size ≤ k) v L := by
 refine ⟨(((hB.setCell hW _).setCell hW _).setCell hW _).setCell hW _, Kd.N_mono (Kd.N_step hN (fun k ho _ => ?_)) (fun k ho => ?_)⟩
 ·have hk : k ≠ g := by
   rcases ho with ho | ho
   ·have := hP k ho; omega
   ·omega
  exact (Below.heap_setCell _ ⟨g, 3, none⟩ _ k hk).trans ((Below.heap_setCell _ ⟨g, 2, none⟩ _ k hk).trans ((Below.heap_setCell _ ⟨g, 1, none⟩ _ k hk).trans (Below.heap_setCell _ ⟨g, 0, none⟩ _ k hk)))
 ·rcases ho with ho | ho
  ·exact .inl ho
  ·exact .inr (by omega)
def MovedEnds (gd : Prop) (F : Int → Int × Bool) (t : Tm) (P : Nat → Prop) (W : World) (e : Ending) (W' : World) : Prop :=
 Below W.heap.size W W' ∧
 (((gd ∧ okM F 0 t = true) ∧ ∃ v, e = .returned (.tuple #[.agg #[.int .i64 t.f0, .string t.f1, .int .i64 (mvI F 0 t.f0 t.f2), v], .bool true]) ∧ Kd.N k25 25 W' W.heap.size (fun k => P k ∨ W.heap.size ≤ k) v (mvL F t.f0 0 0 t.f3)) ∨
  (¬ (gd ∧ okM F 0 t = true) ∧ e = .returned (.tuple #[.agg #[.int .i64 0, .string ⟨#[]⟩, .int .i64 0, .slice none 0 0], .bool false])))
set_option maxHeartbeats 4000000 in
set_option maxRecDepth 100000 in
theorem lower_calls (from_ n : Int) (t : Tm) (hn : nT t ≤ 1000000) (A : Option Addr) (c : Nat) (P : Nat → Prop) (W : World) (kw : Nat) (hw : term_WellFormed.f kw t.f0 t.f1 t.f2 t.f3 = some (wfE t))
  (hF : Kd.F k25 W P A t.f3.length t.f3) (hc : t.f3.length ≤ c) (hP : ∀ k, P k → k < W.heap.size) :
  Calls Tryd.prog 64 #[.agg #[.int .i64 t.f0, .string t.f1, .int .i64 t.f2, .slice A t.f3.length c], .int .i64 from_, .int .i64 n] W (MovedEnds (0 ≤ from_ ∧ 0 ≤ n ∧ wfE t = 0) (loF from_ n) t P W) := by
 have HF := Lib.hid hF
 have HP := Lib.hid hP
 have HC := Lib.hid hc
 have HW := Lib.hid hw
 have hw3 : W.heap.size ≤ W.heap.size + 1 + 1 + 1 := by omega
 have HS := Lib.hid (Sb.new W t (.slice A t.f3.length c) (.int .i64 from_) (.int .i64 n))
 clear hF hP hc hw
 by_cases h1 : from_ < 0
 ·have h1b : decide (from_ < 0) = true := decide_eq_true h1
  obtain ⟨⟨a0, a1, a2, a3⟩, ⟨b1, b2⟩, ⟨r0, r1, r2, r3⟩, ⟨z0, z1, z2, z3⟩, hl⟩ := HS.out.facts
  go_enter Tryd.func64, Tryd.ntmps64
  go_wp2_with fail
  have HE := Lib.hid HS.out.b3
  have e0 := yE HE.out 0
  have e1 := yE HE.out 1
  have e2 := yE HE.out 2
  have e3 := yE HE.out 3
  refine bodyPost_ret (v := .tuple #[.agg #[.int .i64 0, .string ⟨#[]⟩, .int .i64 0, .slice none 0 0], .bool false]) ?_ rfl ⟨HS.out.be, .inr ⟨fun h => by omega, rfl⟩⟩
  simp [results, Tryd.f64, go_sem, e0, e1, e2, e3]
 ·have h1b : decide (from_ < 0) = false := decide_eq_false h1
  by_cases h2 : n < 0
  ·have h2b : decide (n < 0) = true := decide_eq_true h2
   obtain ⟨⟨a0, a1, a2, a3⟩, ⟨b1, b2⟩, ⟨r0, r1, r2, r3⟩, ⟨z0, z1, z2, z3⟩, hl⟩ := HS.out.facts
   go_enter Tryd.func64, Tryd.ntmps64
   go_wp2_with fail
   have HE := Lib.hid HS.out.b3
   have e0 := yE HE.out 0
   have e1 := yE HE.out 1
   have e2 := yE HE.out 2
   have e3 := yE HE.out 3
   refine bodyPost_ret (v := .tuple #[.agg #[.int .i64 0, .string ⟨#[]⟩, .int .i64 0, .slice none 0 0], .bool false]) ?_ rfl ⟨HS.out.be, .inr ⟨fun h => by omega, rfl⟩⟩
   simp [results, Tryd.f64, go_sem, e0, e1, e2, e3]
  ·have h2b : decide (n < 0) = false := decide_eq_false h2
   clear HS
   go_enter Tryd.func64, Tryd.ntmps64
   go_wp2_with fail
   refine (term_WellFormed.calls kw t.f0 t.f1 t.f2 A c t.f3 (wfE t) _ (Kd.F_now (Kd.F_alloc (Kd.F_alloc (Kd.F_alloc (Kd.F_alloc HF.out _) _) _) _)) HC.out HW.out).mono ?_
   rintro e W1 ⟨rfl, hb⟩
   have HS := Lib.hid ((Sb.new W t (.slice A t.f3.length c) (.int .i64 from_) (.int .i64 n)).below hb)
   clear hb
   obtain ⟨⟨a0, a1, a2, a3⟩, ⟨b1, b2⟩, ⟨r0, r1, r2, r3⟩, ⟨z0, z1, z2, z3⟩, hl⟩ := HS.out.facts
   by_cases hz : wfE t = 0
   ·have hzb : (wfE t == 0) = true := beq_iff_eq.mpr hz
    have HZ := Lib.hid hz
    clear hz
    go_wp2_with fail
    refine (move_calls 104 #[.pointer (some ⟨W.heap.size + 1, 0, none⟩), .pointer (some ⟨W.heap.size + 1 + 1, 0, none⟩)] (loF from_ n) hf_lo t hn A c P W1 (fun _ => true) (xT_true (nT t) t (Nat.le_refl _) 0) (fun W' x _ hb => lo_calls from_ n x _ _ W' (pw_cell_below hb b1) (pw_cell_below hb b2)) (Kd.F_below HF.out HS.out.be) HC.out (fun k hk => Nat.lt_of_lt_of_le (HP.out k hk) HS.out.be.size)).mono ?_
    rintro e W2 ⟨hb2, hmv⟩
    have HS2 := Lib.hid (HS.out.below hb2)
    have hsz := HS.out.be.size;have hl1 := hl;clear hb2 a0 a1 a2 a3 b1 b2 r0 r1 r2 r3 z0 z1 z2 z3 hl HS
    obtain ⟨⟨a0, a1, a2, a3⟩, ⟨b1, b2⟩, ⟨r0, r1, r2, r3⟩, ⟨z0, z1, z2, z3⟩, hl⟩ := HS2.out.facts
    rcases hmv with ⟨hok, v, rfl, hN⟩ | ⟨hok, rfl⟩
    ·obtain ⟨A1, cc, rfl⟩ := Kd.N_slice hN
     have HN := Lib.hid (Kd.N_mono (ok' := fun k => P k ∨ W.heap.size + 1 + 1 + 1 + 1 ≤ k) (Kd.N_lower hN hsz) (fun _ h => h.imp id (fun h => by omega)))
     have HO := Lib.hid hok
     clear hN hok
     go_wp2_with fail
     have HE := Lib.hid (blk4 t.f0 t.f1 (mvI (loF from_ n) 0 t.f0 t.f2) (.slice A1 (mvL (loF from_ n) t.f0 0 0 t.f3).length cc) HS2.out.b3)
     have e0 := yE HE.out 0
     have e1 := yE HE.out 1
     have e2 := yE HE.out 2
     have e3 := yE HE.out 3
     have HQ := Lib.hid (mw_fin0 hw3 HP.out HS2.out.be HN.out (.int .i64 t.f0) (.string t.f1) (.int .i64 (mvI (loF from_ n) 0 t.f0 t.f2)) (.slice A1 (mvL (loF from_ n) t.f0 0 0 t.f3).length cc))
     refine bodyPost_ret (v := .tuple #[.agg #[.int .i64 t.f0, .string t.f1, .int .i64 (mvI (loF from_ n) 0 t.f0 t.f2), .slice A1 (mvL (loF from_ n) t.f0 0 0 t.f3).length cc], .bool true]) ?_ rfl ⟨HQ.out.1, .inl ⟨⟨⟨by omega, by omega, HZ.out⟩, HO.out⟩, _, rfl, HQ.out.2⟩⟩
     simp [results, Tryd.f64, go_sem, e0, e1, e2, e3]
    ·have HO := Lib.hid hok
     clear hok
     go_wp2_with fail
     have HE := Lib.hid (blk4 0 ⟨#[]⟩ 0 (.slice none 0 0) HS2.out.b3)
     have e0 := yE HE.out 0
     have e1 := yE HE.out 1
     have e2 := yE HE.out 2
     have e3 := yE HE.out 3
     refine bodyPost_ret (v := .tuple #[.agg #[.int .i64 0, .string ⟨#[]⟩, .int .i64 0, .slice none 0 0], .bool false]) ?_ rfl ⟨(((HS2.out.be.setCell hw3 _).setCell hw3 _).setCell hw3 _).setCell hw3 _, .inr ⟨fun h => by rw [HO.out] at h; exact absurd h.2 (by decide), rfl⟩⟩
     simp [results, Tryd.f64, go_sem, e0, e1, e2, e3]
   ·have hzb : (wfE t == 0) = false := beq_eq_false_iff_ne.mpr hz
    have HZ := Lib.hid hz
    clear hz
    go_wp2_with fail
    have HE := Lib.hid (blk4 0 ⟨#[]⟩ 0 (.slice none 0 0) HS.out.b3)
    have e0 := yE HE.out 0
    have e1 := yE HE.out 1
    have e2 := yE HE.out 2
    have e3 := yE HE.out 3
    refine bodyPost_ret (v := .tuple #[.agg #[.int .i64 0, .string ⟨#[]⟩, .int .i64 0, .slice none 0 0], .bool false]) ?_ rfl ⟨(((HS.out.be.setCell hw3 _).setCell hw3 _).setCell hw3 _).setCell hw3 _, .inr ⟨fun h => HZ.out h.1.2.2, rfl⟩⟩
    simp [results, Tryd.f64, go_sem, e0, e1, e2, e3]
end Go.Proofs.YtpkkoiljombooaaDoor.G
