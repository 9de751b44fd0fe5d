import Derived.WalkKit
import Derived.ChangeShapes
import Derived.ChangeReads
import Derived.WideKeyArr
import Derived.ChangeSame
import Derived.SizedLaws
import Derived.ChangeSlices
set_option linter.unusedVariables false
namespace Go.Proofs.YtpkkoiljombooaaDoor.G
open Go.ChangeShapes Go.WideShapes
section
variable {H : Type} {enc : TypeId × Value → H} {P : Program} {t e : TypeId} {n : Nat} {W : World} {base : Nat} {sp : Nat → Bool} {held : Bool}
abbrev intLit (x : Int) : DataW H := .lit (.int .i64 x)
theorem arr_mapM (he : P.underlying e = some (.int .i64)) (hCe : P.cellsOf e = 1) {m : Nat} {cs : List Value} : ∀ (c s : Nat) (xs : List (DataW H × List MemPlace)), s + c = cs.length →
  (List.range' s c).mapM (fun i => DataW.trod enc P W base sp held m e ((cs.drop (i * P.cellsOf e)).take (P.cellsOf e))) = some xs →
  ∃ zs : List Int, zs.length = c ∧ cs.drop s = zs.map (Value.int .i64) ∧ xs = zs.map (fun z => (intLit z, [])) ∧ ∀ z ∈ zs, (Lit.int .i64 z).wf = true
 | 0, s, xs, hs, h => by
  simp at h
  subst h
  exact ⟨[], rfl, by simp; omega, rfl, by simp⟩
 | c + 1, s, xs, hs, h => by
  rw [List.range'_succ, List.mapM_cons] at h
  simp only [bind, Option.bind_eq_some_iff, pure, Option.some.injEq] at h
  obtain ⟨y, hy, ys, hys, rfl⟩ := h
  obtain ⟨zs, hz, hd, rfl, hw⟩ := arr_mapM he hCe c (s + 1) ys (by omega) hys
  obtain ⟨a, ea, rfl, wa⟩ := DataW.trod_int he hy
  have hlt : s < cs.length := by omega
  rw [hCe, Nat.mul_one, List.drop_eq_getElem_cons hlt] at ea
  simp only [List.take_succ_cons, List.take_zero, List.cons.injEq, and_true] at ea
  refine ⟨a :: zs, by simp [hz], ?_, rfl, ?_⟩
  ·rw [List.drop_eq_getElem_cons hlt, ea, hd]; rfl
  ·intro z hz'
   rcases List.mem_cons.1 hz' with rfl | h
   ·exact wa
   ·exact hw z h
theorem open_intarr {r : Reach} {b0 : Nat} {v : Value} (hu : P.underlying t = some (.array n e)) (he : P.underlying e = some (.int .i64)) (hC : P.cellsOf t = n) (hCe : P.cellsOf e = 1) (hval : Value.okWide P W r b0 t v) {d : DataW H} {ps : List MemPlace} (hd : DataW.Trod enc P W base sp held t v d ps) :
  ∃ zs : List Int, zs.length = n ∧ (∀ z ∈ zs, (Lit.int .i64 z).wf = true) ∧ v = .agg (zs.map (Value.int .i64)).toArray ∧ d = .agg (zs.map intLit) ∧ ps = [] := by
 simp only [Value.okWide, hu] at hval
 obtain ⟨cs, rfl, hsz, _⟩ := hval
 obtain ⟨fuel, hf⟩ := hd
 cases fuel with
 | zero => simp [DataW.trod] at hf
 | succ m =>
  rw [DataW.trod_step] at hf
  unfold DataW.trodStep at hf
  simp only [hu, Value.cells] at hf
  have hl : cs.toList.length = n := by rw [Array.length_toList, hsz, hC]
  rw [if_pos (by rw [hC]; exact hl)] at hf
  simp only [Option.map_eq_some_iff] at hf
  obtain ⟨ys, hy, e1⟩ := hf
  rw [List.range_eq_range'] at hy
  obtain ⟨zs, hz, hd, rfl, hw⟩ := arr_mapM he hCe n 0 ys (by omega) hy
  simp only [Prod.mk.injEq] at e1
  rw [List.drop_zero] at hd
  refine ⟨zs, hz, hw, ?_, ?_, ?_⟩
  ·rw [← hd]
  ·rw [← e1.1]; simp [Function.comp_def]
  ·rw [← e1.2]; simp [List.flatMap_eq_nil_iff]
theorem arr_mapM' (he : P.underlying e = some (.int .i64)) (hCe : P.cellsOf e = 1) {m : Nat} {cs : List Value} : ∀ (zs : List Int) (s : Nat), cs.drop s = zs.map (Value.int .i64) → (∀ z ∈ zs, (Lit.int .i64 z).wf = true) →
  (List.range' s zs.length).mapM (fun i => DataW.trod enc P W base sp held (m + 1) e ((cs.drop (i * P.cellsOf e)).take (P.cellsOf e))) = some (zs.map (fun z => (intLit z, [])))
 | [], s, _, _ => by simp
 | z :: zs, s, hd, hw => by
  have hd2 : cs.drop (s + 1) = zs.map (Value.int .i64) := by
   have := congrArg (List.drop 1) hd
   rw [List.drop_drop] at this
   simpa [Nat.add_comm] using this
  rw [List.length_cons, List.range'_succ, List.mapM_cons, arr_mapM' he hCe zs (s + 1) hd2 (fun z' h => hw z' (by simp [h])), hCe, Nat.mul_one, hd]
  have hw0 := hw z (by simp)
  simp [DataW.trod, he, hw0]
theorem shut_intarr (hu : P.underlying t = some (.array n e)) (he : P.underlying e = some (.int .i64)) (hC : P.cellsOf t = n) (hCe : P.cellsOf e = 1) {zs : List Int} (hz : zs.length = n) (hw : ∀ z ∈ zs, (Lit.int .i64 z).wf = true) :
  DataW.Trod enc P W base sp held t (.agg (zs.map (Value.int .i64)).toArray) (.agg (zs.map intLit)) [] := by
 refine ⟨2, ?_⟩
 rw [DataW.trod_step]
 unfold DataW.trodStep
 simp only [hu, Value.cells]
 rw [if_pos (by rw [hC]; simpa using hz), List.range_eq_range', ← hz, arr_mapM' (m := 0) he hCe zs 0 (by simp) hw]
 simp only [Option.map_some, List.map_map, Option.some.injEq, Prod.mk.injEq]
 exact ⟨by simp [Function.comp_def], by simp [List.flatMap_eq_nil_iff]⟩
end
end Go.Proofs.YtpkkoiljombooaaDoor.G
namespace Go.Proofs.YtpkkoiljombooaaDoorW.PrintWords
open Go.ChangeShapes Go.WideShapes
theorem sized_ints {H : Type} {enc : TypeId × Value → H} {P : Program} {W : World} {base : Nat} {spare : Nat → Bool} {held : Bool} {t e : TypeId} {k : IntKind} {a : Option Addr} {len cap : Nat} {d : DataW H} {ps : List MemPlace} {ts : List TypeId} {ds : List (DataW H)} {j : Nat}
  (hsz : (DataW.weightsEach P ts ds).all (· ≤ reachBytes) = true) (ht : ts[j]? = some t) (hd : ds[j]? = some d) (hu : P.underlying t = some (.slice e)) (he : P.underlying e = some (.int k)) (hc : P.cellsOf e = 1) {B : Nat} (hB : P.bytesOf e = B)
  (h : DataW.Trod enc P W base spare held t (.slice a len cap) d ps) : len * B ≤ 140737488351232 := by
 obtain ⟨fuel, hf⟩ := h
 rcases open_ints hu he hc hf with ⟨hcs, _⟩ | ⟨x, l, c, zs, hcs, _, hl, _, hz, hx, _, _⟩
 ·simp [Value.cells] at hcs
  obtain ⟨rfl, rfl, rfl⟩ := hcs
  simp
 ·simp [Value.cells] at hcs
  obtain ⟨rfl, rfl, rfl⟩ := hcs
  obtain ⟨hx, _⟩ := Prod.mk.inj hx
  subst hx
  have z := sized_slice hsz ht hd hu
  rw [hB] at z
  have hl2 : len ≤ zs.length := by
   rw [hz]
   split
   ·exact hl
   ·exact Nat.le_refl _
  have h1 : (lits (H := H) k (zs.take len)).length + (lits (H := H) k (zs.drop len)).length = zs.length := by
   simp [lits]
   omega
  rw [h1] at z
  exact Nat.le_trans (Nat.mul_le_mul_right _ hl2) z
end Go.Proofs.YtpkkoiljombooaaDoorW.PrintWords
