import Derived.Test.YtpkkoiljombooaaDoorKG0
import Derived.Test.YtpkkoiljombooaaDoorKMv
set_option linter.unusedVariables false
set_option linter.unusedSimpArgs false
namespace Go.Proofs.YtpkkoiljombooaaDoor.G
open Go.RowKit Go.Proofs.YtpkkoiljombooaaDoorW.PrintWords Go.Proofs.YtpkkoiljombooaaDoorW.PrintLast Go.Proofs.YtpkkoiljombooaaDoorW.PrintMore
def MoveEnds (F : Int → Int × Bool) (t : Tm) (P : Nat → Prop) (W : World) (e : Ending) (W' : World) : Prop :=
 Below W.heap.size W W' ∧ ((okM F 0 t = true ∧ ∃ v, e = .returned (.tuple #[.agg #[.int .i64 t.f0, .string t.f1, .int .i64 (mvI F 0 t.f0 t.f2), v], .bool true]) ∧ Kd.N k25 25 W' W.heap.size (fun k => P k ∨ W.heap.size ≤ k) v (mvL F t.f0 0 0 t.f3)) ∨
  (okM F 0 t = false ∧ e = .returned (.tuple #[.agg #[.int .i64 0, .string ⟨#[]⟩, .int .i64 0, .slice none 0 0], .bool false])))
abbrev mwW (W : World) (t : Tm) (v : Value) (fT : FuncId) (caps : Array Value) : World := ((((W.alloc (.cells #[.int .i64 t.f0, .string t.f1, .int .i64 t.f2, v] 25)).alloc (.cells #[.func (.func fT) #[] caps] 96)).alloc (.cells #[.int .i64 0, .string ⟨#[]⟩, .int .i64 0, .slice none 0 0] 25)).alloc (.cells #[.bool true] 4)).alloc (.cells #[.func (.func 128) #[] #[.pointer (some ⟨W.heap.size + 1, 0, none⟩), .pointer (some ⟨W.heap.size + 1 + 1 + 1, 0, none⟩), .pointer (some ⟨W.heap.size + 1 + 1 + 1 + 1, 0, none⟩)]] 40)
theorem new_at {W : World} {n : Nat} (o : Obj) (h : W.heap.size = n) : (W.alloc o).heap[n]? = some o := by subst h; exact blk_new W o
theorem mw_new (W : World) (t : Tm) (v : Value) (fT : FuncId) (caps : Array Value) :
  Mv W (W.heap.size + 1) (W.heap.size + 1 + 1 + 1) (W.heap.size + 1 + 1 + 1 + 1) fT caps true (mwW W t v fT caps) ∧ (mwW W t v fT caps).heap[W.heap.size + 1 + 1]? = some (.cells #[.int .i64 0, .string ⟨#[]⟩, .int .i64 0, .slice none 0 0] 25 (0, 0)) := by
 have hb : Below W.heap.size W (mwW W t v fT caps) := yF (yF (yF (yF (yF (Below.refl _ _) _) _) _) _) _
 refine ⟨⟨hb, yC (yC (yC (new_at _ (by simp)) _) _) _, yC (new_at _ (by simp)) _, new_at _ (by simp), by omega, by omega, by omega⟩, yC (yC (new_at _ (by simp)) _) _⟩
theorem mw_size (W : World) (t : Tm) (v : Value) (fT : FuncId) (caps : Array Value) : (mwW W t v fT caps).heap.size = W.heap.size + 5 := by simp
theorem mw_fin {W W2 : World} {g : Nat} {P : Nat → Prop} {v : Value} {L : List Tm} {o : Obj} (hW : W.heap.size ≤ g) (hP : ∀ k, P k → k < W.heap.size) (hB : Below W.heap.size W W2) (hN : Kd.N k25 25 W2 W.heap.size (fun k => P k ∨ g + 1 ≤ k) v L) (u0 u1 u2 u3 : Value) :
  Below W.heap.size W (((((W2.setCell ⟨g, 0, none⟩ u0).setCell ⟨g, 1, none⟩ u1).setCell ⟨g, 2, none⟩ u2).setCell ⟨g, 3, none⟩ u3).alloc o) ∧ Kd.N k25 25 (((((W2.setCell ⟨g, 0, none⟩ u0).setCell ⟨g, 1, none⟩ u1).setCell ⟨g, 2, none⟩ u2).setCell ⟨g, 3, none⟩ u3).alloc o) W.heap.size (fun k => P k ∨ W.heap.size ≤ k) v L := by
 refine ⟨yF ((((hB.setCell hW _).setCell hW _).setCell hW _).setCell hW _) o, Kd.N_alloc (Kd.N_mono (Kd.N_step hN (fun k ho _ => ?_)) (fun k ho => ?_)) o⟩
 ·have hk : k ≠ g := by
   rcases ho with ho | ho
   ·have := hP k ho; omega
   ·omega
  exact (Below.heap_setCell _ ⟨g, 3, none⟩ _ k hk).trans ((Below.heap_setCell _ ⟨g, 2, none⟩ _ k hk).trans ((Below.heap_setCell _ ⟨g, 1, none⟩ _ k hk).trans (Below.heap_setCell _ ⟨g, 0, none⟩ _ k hk)))
 ·rcases ho with ho | ho
  ·exact .inl ho
  ·exact .inr (by omega)
set_option maxHeartbeats 4000000 in
set_option maxRecDepth 100000 in
theorem move_calls (fT : FuncId) (caps : Array Value) (F : Int → Int × Bool)
  (hfT : ∀ (a : Array Value) (W : World), Sem.run Tryd.prog (callFunc fT a) W = .ok (.enter fT a) W)
  (t : Tm) (hn : nT t ≤ 1000000) (A : Option Addr) (c : Nat) (P : Nat → Prop) (W : World)
  (X : Int → Bool) (hx : xT X 0 t = true) (hto : ∀ (W' : World) (x : Int), X x = true → Below W.heap.size W W' → Calls Tryd.prog fT (#[.int .i64 x] ++ caps) W' fun e W2 => e = .returned (.tuple #[.int .i64 (F x).1, .bool (F x).2]) ∧ Below W'.heap.size W' W2)
  (hF : Kd.F k25 W P A t.f3.length t.f3) (hc : t.f3.length ≤ c) (hP : ∀ k, P k → k < W.heap.size) :
  Calls Tryd.prog 100 #[.agg #[.int .i64 t.f0, .string t.f1, .int .i64 t.f2, .slice A t.f3.length c], .func (.func fT) #[] caps] W (MoveEnds F t P W) := by
 have HF := Lib.hid hF
 have HP := Lib.hid hP
 have HTO := Lib.hid hto
 clear hF hP hto
 go_enter Tryd.func100, Tryd.ntmps100
 go_wp2_with fail
 have hnw := mw_new W t (.slice A t.f3.length c) fT caps
 refine (mv_all W _ _ _ fT caps F hfT X HTO.out (nT t) t (Nat.le_refl _) hn 0 A c P true _ hnw.1 (Kd.F_alloc (Kd.F_alloc (Kd.F_alloc (Kd.F_alloc (Kd.F_alloc HF.out _) _) _) _) _) hc (fun k hk => ⟨by have := HP.out k hk; have := hnw.1.be.size; omega, by have := HP.out k hk; omega⟩) hx).mono ?_
 rintro e W2 ⟨v, rfl, hN, hM, hK⟩
 obtain ⟨A1, cc, rfl⟩ := Kd.N_slice hN
 have hR := blk_kept hnw.2 hK (by omega)
 have HN := Lib.hid (Kd.N_mono (ok' := fun k => P k ∨ W.heap.size + 1 + 1 + 1 ≤ k) (Kd.N_lower hN hnw.1.be.size) (fun k hk => hk.imp id (fun h => by rw [mw_size] at h; omega)))
 have HM := Lib.hid hM
 have HR := Lib.hid hR
 have HZ := Lib.hid hnw.1.be.size
 have c1 : W2.cell? ⟨W.heap.size + 1 + 1 + 1, 0, none⟩ = some (.bool (true && okM F 0 t)) := (yE hM.kk 0).trans rfl
 rw [Bool.true_and] at c1
 have l1 := blk_lt hM.kk
 have r0 : W2.cell? ⟨W.heap.size + 1 + 1, 0, none⟩ = some (.int .i64 0) := (yE hR 0).trans rfl
 have r1 : W2.cell? ⟨W.heap.size + 1 + 1, 1, none⟩ = some (.string ⟨#[]⟩) := (yE hR 1).trans rfl
 have r2 : W2.cell? ⟨W.heap.size + 1 + 1, 2, none⟩ = some (.int .i64 0) := (yE hR 2).trans rfl
 have r3 : W2.cell? ⟨W.heap.size + 1 + 1, 3, none⟩ = some (.slice none 0 0) := (yE hR 3).trans rfl
 have z0 : W2.frozen? ⟨W.heap.size + 1 + 1, 0, none⟩ = false := yD hR _
 have z1 : W2.frozen? ⟨W.heap.size + 1 + 1, 1, none⟩ = false := yD hR _
 have z2 : W2.frozen? ⟨W.heap.size + 1 + 1, 2, none⟩ = false := yD hR _
 have z3 : W2.frozen? ⟨W.heap.size + 1 + 1, 3, none⟩ = false := yD hR _
 have l2 := blk_lt hR
 clear hnw hN hM hK hR
 cases hok : okM F 0 t
 ·rw [hok] at c1
  go_wp2_with fail
  have HE := Lib.hid (yC (blk4 0 ⟨#[]⟩ 0 (.slice none 0 0) HR.out) (.cells #[.int .i64 t.f0, .string t.f1, .int .i64 (mvI F 0 t.f0 t.f2), .slice A1 (mvL F t.f0 0 0 t.f3).length cc] 25))
  have e0 := yE HE.out 0
  have e1 := yE HE.out 1
  have e2 := yE HE.out 2
  have e3 := yE HE.out 3
  refine bodyPost_ret (v := .tuple #[.agg #[.int .i64 0, .string ⟨#[]⟩, .int .i64 0, .slice none 0 0], .bool false]) ?_ rfl ⟨?_, .inr ⟨hok, rfl⟩⟩
  ·simp [results, Tryd.f100, go_sem, e0, e1, e2, e3]
  ·exact (mw_fin (by omega) HP.out HM.out.be HN.out _ _ _ _).1
 ·rw [hok] at c1
  go_wp2_with fail
  have HE := Lib.hid (yC (blk4 t.f0 t.f1 (mvI F 0 t.f0 t.f2) (.slice A1 (mvL F t.f0 0 0 t.f3).length cc) HR.out) (.cells #[.int .i64 t.f0, .string t.f1, .int .i64 (mvI F 0 t.f0 t.f2), .slice A1 (mvL F t.f0 0 0 t.f3).length cc] 25))
  have e0 := yE HE.out 0
  have e1 := yE HE.out 1
  have e2 := yE HE.out 2
  have e3 := yE HE.out 3
  refine bodyPost_ret (v := .tuple #[.agg #[.int .i64 t.f0, .string t.f1, .int .i64 (mvI F 0 t.f0 t.f2), .slice A1 (mvL F t.f0 0 0 t.f3).length cc], .bool true]) ?_ rfl ⟨?_, .inl ⟨hok, _, rfl, ?_⟩⟩
  ·simp [results, Tryd.f100, go_sem, e0, e1, e2, e3]
  ·exact (mw_fin (by omega) HP.out HM.out.be HN.out _ _ _ _).1
  ·exact (mw_fin (by omega) HP.out HM.out.be HN.out _ _ _ _).2
end Go.Proofs.YtpkkoiljombooaaDoor.G
