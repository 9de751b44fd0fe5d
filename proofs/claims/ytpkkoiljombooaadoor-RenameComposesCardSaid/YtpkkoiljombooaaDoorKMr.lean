import Derived.Test.YtpkkoiljombooaaDoorKG0
import Derived.Test.YtpkkoiljombooaaDoorKG6
import Derived.Test.YtpkkoiljombooaaDoorKMs
set_option linter.unusedVariables false
set_option linter.unusedSimpArgs false
namespace Go.Proofs.YtpkkoiljombooaaDoor.G
open Go.RowKit Go.Proofs.YtpkkoiljombooaaDoorW.PrintWords Go.Proofs.YtpkkoiljombooaaDoorW.PrintLast Go.Proofs.YtpkkoiljombooaaDoorW.PrintMore
abbrev srW (W : World) (t : Tm) (v u1 : Value) : World := ((W.alloc (.cells #[.int .i64 t.f0, .string t.f1, .int .i64 t.f2, v] 25)).alloc (.cells #[u1] 22)).alloc (.cells #[.int .i64 0, .string ⟨#[]⟩, .int .i64 0, .slice none 0 0] 25)
structure Sr (W : World) (t : Tm) (v u1 : Value) (W1 : World) : Prop where
 be : Below W.heap.size W W1
 b0 : W1.heap[W.heap.size]? = some (.cells #[.int .i64 t.f0, .string t.f1, .int .i64 t.f2, v] 25 (0, 0))
 b1 : W1.heap[W.heap.size + 1]? = some (.cells #[u1] 22 (0, 0))
 b3 : W1.heap[W.heap.size + 1 + 1]? = some (.cells #[.int .i64 0, .string ⟨#[]⟩, .int .i64 0, .slice none 0 0] 25 (0, 0))
theorem Sr.new (W : World) (t : Tm) (v u1 : Value) : Sr W t v u1 (srW W t v u1) :=
 ⟨yF (yF (yF (Below.refl _ _) _) _) _, yC (yC (blk_new _ _) _) _, yC (new_at _ (by simp)) _, new_at _ (by simp)⟩
theorem Sr.below {W W1 W2 : World} {t : Tm} {v u1 : Value} (h : Sr W t v u1 W1) (hb : Below W1.heap.size W1 W2) : Sr W t v u1 W2 :=
 ⟨h.be.trans ⟨hb.os, hb.tape, hb.output, hb.size, fun k hk => hb.block k (Nat.lt_of_lt_of_le hk h.be.size)⟩, blk_below h.b0 hb, blk_below h.b1 hb, blk_below h.b3 hb⟩
theorem Sr.facts {W W1 : World} {t : Tm} {v u1 : Value} (h : Sr W t v u1 W1) :
  (W1.cell? ⟨W.heap.size, 0, none⟩ = some (.int .i64 t.f0) ∧ W1.cell? ⟨W.heap.size, 1, none⟩ = some (.string t.f1) ∧ W1.cell? ⟨W.heap.size, 2, none⟩ = some (.int .i64 t.f2) ∧ W1.cell? ⟨W.heap.size, 3, none⟩ = some v) ∧
  W1.cell? ⟨W.heap.size + 1, 0, none⟩ = some u1 ∧
  (W1.cell? ⟨W.heap.size + 1 + 1, 0, none⟩ = some (.int .i64 0) ∧ W1.cell? ⟨W.heap.size + 1 + 1, 1, none⟩ = some (.string ⟨#[]⟩) ∧ W1.cell? ⟨W.heap.size + 1 + 1, 2, none⟩ = some (.int .i64 0) ∧ W1.cell? ⟨W.heap.size + 1 + 1, 3, none⟩ = some (.slice none 0 0)) ∧
  (W1.frozen? ⟨W.heap.size + 1 + 1, 0, none⟩ = false ∧ W1.frozen? ⟨W.heap.size + 1 + 1, 1, none⟩ = false ∧ W1.frozen? ⟨W.heap.size + 1 + 1, 2, none⟩ = false ∧ W1.frozen? ⟨W.heap.size + 1 + 1, 3, none⟩ = false) ∧ W.heap.size + 1 + 1 < W1.heap.size :=
 ⟨⟨(yE h.b0 0).trans rfl, (yE h.b0 1).trans rfl, (yE h.b0 2).trans rfl, (yE h.b0 3).trans rfl⟩, (yE h.b1 0).trans rfl, ⟨(yE h.b3 0).trans rfl, (yE h.b3 1).trans rfl, (yE h.b3 2).trans rfl, (yE h.b3 3).trans rfl⟩, ⟨yD h.b3 _, yD h.b3 _, yD h.b3 _, yD h.b3 _⟩, blk_lt h.b3⟩
set_option maxHeartbeats 4000000 in
set_option maxRecDepth 100000 in
theorem rename_calls (to_ : List Int) (At : Option Addr) (ct : Nat) (t : Tm) (hn : nT t ≤ 1000000) (A : Option Addr) (c : Nat) (P : Nat → Prop) (W : World) (kw : Nat) (hw : term_WellFormed.f kw t.f0 t.f1 t.f2 t.f3 = some (wfE t))
  (hF : Kd.F k25 W P A t.f3.length t.f3) (hc : t.f3.length ≤ c) (hP : ∀ k, P k → k < W.heap.size) (hT : Kd.C (Kd.int .i64) W At to_.length to_) (hX : wfE t = 0 → xT (fun x => decide (0 ≤ x)) 0 t = true) :
  Calls Tryd.prog 68 #[.agg #[.int .i64 t.f0, .string t.f1, .int .i64 t.f2, .slice A t.f3.length c], .slice At to_.length ct] W (MovedEnds (wfE t = 0) (rnF to_) t P W) := by
 have HF := Lib.hid hF
 have HP := Lib.hid hP
 have HC := Lib.hid hc
 have HW := Lib.hid hw
 have HT := Lib.hid hT
 have HX := Lib.hid hX
 have hw3 : W.heap.size ≤ W.heap.size + 1 + 1 := by omega
 clear hF hP hc hw hT hX
 go_enter Tryd.func68, Tryd.ntmps68
 go_wp2_with fail
 refine (term_WellFormed.calls kw t.f0 t.f1 t.f2 A c t.f3 (wfE t) _ (Kd.F_now (Kd.F_alloc (Kd.F_alloc (Kd.F_alloc HF.out _) _) _)) HC.out HW.out).mono ?_
 rintro e W1 ⟨rfl, hb⟩
 have HS := Lib.hid ((Sr.new W t (.slice A t.f3.length c) (.slice At to_.length ct)).below hb)
 clear hb
 obtain ⟨⟨a0, a1, a2, a3⟩, b1, ⟨r0, r1, r2, r3⟩, ⟨z0, z1, z2, z3⟩, hl⟩ := HS.out.facts
 by_cases hz : wfE t = 0
 ·have hzb : (wfE t == 0) = true := beq_iff_eq.mpr hz
  have HZ := Lib.hid hz
  clear hz
  go_wp2_with fail
  refine (move_calls 106 #[.pointer (some ⟨W.heap.size + 1, 0, none⟩)] (rnF to_) hf_rn t hn A c P W1 (fun x => decide (0 ≤ x)) (HX.out HZ.out) (fun W' x hx hb => rn_calls to_ x (of_decide_eq_true hx) _ At ct W' (pw_cell_below hb b1) (Kd.C_below (Kd.C_below HT.out HS.out.be) hb)) (Kd.F_below HF.out HS.out.be) HC.out (fun k hk => Nat.lt_of_lt_of_le (HP.out k hk) HS.out.be.size)).mono ?_
  rintro e W2 ⟨hb2, hmv⟩
  have HS2 := Lib.hid (HS.out.below hb2)
  have hsz := HS.out.be.size;have hl1 := hl;clear hb2 a0 a1 a2 a3 b1 r0 r1 r2 r3 z0 z1 z2 z3 hl HS
  obtain ⟨⟨a0, a1, a2, a3⟩, b1, ⟨r0, r1, r2, r3⟩, ⟨z0, z1, z2, z3⟩, hl⟩ := HS2.out.facts
  rcases hmv with ⟨hok, v, rfl, hN⟩ | ⟨hok, rfl⟩
  ·obtain ⟨A1, cc, rfl⟩ := Kd.N_slice hN
   have HN := Lib.hid (Kd.N_mono (ok' := fun k => P k ∨ W.heap.size + 1 + 1 + 1 ≤ k) (Kd.N_lower hN hsz) (fun _ h => h.imp id (fun h => by omega)))
   have HO := Lib.hid hok
   clear hN hok
   go_wp2_with fail
   have HE := Lib.hid (blk4 t.f0 t.f1 (mvI (rnF to_) 0 t.f0 t.f2) (.slice A1 (mvL (rnF to_) t.f0 0 0 t.f3).length cc) HS2.out.b3)
   have e0 := yE HE.out 0
   have e1 := yE HE.out 1
   have e2 := yE HE.out 2
   have e3 := yE HE.out 3
   have HQ := Lib.hid (mw_fin0 hw3 HP.out HS2.out.be HN.out (.int .i64 t.f0) (.string t.f1) (.int .i64 (mvI (rnF to_) 0 t.f0 t.f2)) (.slice A1 (mvL (rnF to_) t.f0 0 0 t.f3).length cc))
   refine bodyPost_ret (v := .tuple #[.agg #[.int .i64 t.f0, .string t.f1, .int .i64 (mvI (rnF to_) 0 t.f0 t.f2), .slice A1 (mvL (rnF to_) t.f0 0 0 t.f3).length cc], .bool true]) ?_ rfl ⟨HQ.out.1, .inl ⟨⟨HZ.out, HO.out⟩, _, rfl, HQ.out.2⟩⟩
   simp [results, Tryd.f68, go_sem, e0, e1, e2, e3]
  ·have HO := Lib.hid hok
   clear hok
   go_wp2_with fail
   have HE := Lib.hid (blk4 0 ⟨#[]⟩ 0 (.slice none 0 0) HS2.out.b3)
   have e0 := yE HE.out 0
   have e1 := yE HE.out 1
   have e2 := yE HE.out 2
   have e3 := yE HE.out 3
   refine bodyPost_ret (v := .tuple #[.agg #[.int .i64 0, .string ⟨#[]⟩, .int .i64 0, .slice none 0 0], .bool false]) ?_ rfl ⟨(((HS2.out.be.setCell hw3 _).setCell hw3 _).setCell hw3 _).setCell hw3 _, .inr ⟨fun h => by rw [HO.out] at h; exact absurd h.2 (by decide), rfl⟩⟩
   simp [results, Tryd.f68, go_sem, e0, e1, e2, e3]
 ·have hzb : (wfE t == 0) = false := beq_eq_false_iff_ne.mpr hz
  have HZ := Lib.hid hz
  clear hz
  go_wp2_with fail
  have HE := Lib.hid (blk4 0 ⟨#[]⟩ 0 (.slice none 0 0) HS.out.b3)
  have e0 := yE HE.out 0
  have e1 := yE HE.out 1
  have e2 := yE HE.out 2
  have e3 := yE HE.out 3
  refine bodyPost_ret (v := .tuple #[.agg #[.int .i64 0, .string ⟨#[]⟩, .int .i64 0, .slice none 0 0], .bool false]) ?_ rfl ⟨(((HS.out.be.setCell hw3 _).setCell hw3 _).setCell hw3 _).setCell hw3 _, .inr ⟨fun h => HZ.out h.1, rfl⟩⟩
  simp [results, Tryd.f68, go_sem, e0, e1, e2, e3]
end Go.Proofs.YtpkkoiljombooaaDoor.G
