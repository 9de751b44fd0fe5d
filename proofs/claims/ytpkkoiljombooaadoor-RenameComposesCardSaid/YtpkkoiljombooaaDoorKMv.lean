import Derived.Test.YtpkkoiljombooaaDoorKG0
import Derived.Test.YtpkkoiljombooaaDoorKH1a
import Derived.Test.YtpkkoiljombooaaDoorKPt
import Derived.WalkKit
import Derived.KernelRfl
import Derived.WalkSpells
import Derived.Lib.Hide
import Derived.Outline
import Derived.Deep.RegionHeld3
import Derived.Deep.Cut
import Derived.Deep.DeepCutAuto
import Derived.Test.YtpkkoiljombooaaDoorKWMore
set_option linter.unusedVariables false
set_option linter.unusedSimpArgs false
namespace Go.Proofs.YtpkkoiljombooaaDoor.G
open Go.RowKit Go.Proofs.YtpkkoiljombooaaDoorW.PrintWords Go.Proofs.YtpkkoiljombooaaDoorW.PrintLast Go.Proofs.YtpkkoiljombooaaDoorW.PrintMore
def inB (k0 b : Int) (k : Nat) : Int := if k0 = 3 ∨ (k0 = 2 ∧ k = 1) then wrap64 (b + 1) else b
def mvI (F : Int → Int × Bool) (b k i : Int) : Int := if k = 5 ∧ i ≥ b then wrap64 ((F (wrap64 (i - b))).1 + b) else i
def mvB (F : Int → Int × Bool) (b k i : Int) : Bool := if k = 5 ∧ i ≥ b then (F (wrap64 (i - b))).2 && (decide ((F (wrap64 (i - b))).1 ≥ 0) && decide ((F (wrap64 (i - b))).1 ≤ wrap64 (1048576 - b))) else true
mutual
def mvT (F : Int → Int × Bool) : Int → Tm → Tm
  | b, ⟨k, n, i, ts⟩ => ⟨k, n, mvI F b k i, mvL F k b 0 ts⟩
def mvL (F : Int → Int × Bool) (k0 b : Int) : Nat → List Tm → List Tm
  | _, [] => []
  | j, u :: us => mvT F (inB k0 b j) u :: mvL F k0 b (j + 1) us
end
mutual
def okM (F : Int → Int × Bool) : Int → Tm → Bool
  | b, ⟨k, n, i, ts⟩ => mvB F b k i && okL F k b 0 ts
def okL (F : Int → Int × Bool) (k0 b : Int) : Nat → List Tm → Bool
  | _, [] => true
  | j, u :: us => okM F (inB k0 b j) u && okL F k0 b (j + 1) us
end
mutual
def xT (X : Int → Bool) : Int → Tm → Bool
  | b, ⟨k, n, i, ts⟩ => (!(decide (k = 5) && decide (i ≥ b)) || X (wrap64 (i - b))) && xL X k b 0 ts
def xL (X : Int → Bool) (k0 b : Int) : Nat → List Tm → Bool
  | _, [] => true
  | j, u :: us => xT X (inB k0 b j) u && xL X k0 b (j + 1) us
end
theorem xT_eq (X : Int → Bool) (b : Int) (t : Tm) : xT X b t = ((!(decide (t.f0 = 5) && decide (t.f2 ≥ b)) || X (wrap64 (t.f2 - b))) && xL X t.f0 b 0 t.f3) := by cases t; rw [xT]
theorem xL_get (X : Int → Bool) (k0 b : Int) : ∀ (l : List Tm) (j : Nat), xL X k0 b j l = true → ∀ (k : Nat) (h : k < l.length), xT X (inB k0 b (j + k)) l[k] = true
  | u :: us, j, hx, 0, _ => by simp only [xL, Bool.and_eq_true] at hx; exact hx.1
  | u :: us, j, hx, k + 1, h => by
    simp only [xL, Bool.and_eq_true] at hx
    have := xL_get X k0 b us (j + 1) hx.2 k (by simpa using h)
    rw [show j + 1 + k = j + (k + 1) by omega] at this
    exact this
theorem mvL_len (F : Int → Int × Bool) (k0 b : Int) : ∀ (l : List Tm) (j : Nat), (mvL F k0 b j l).length = l.length
  | [], _ => rfl
  | _ :: us, j => by simp [mvL, mvL_len F k0 b us (j + 1)]
structure Mv (w0 : World) (bT bO bW : Nat) (fT : FuncId) (caps : Array Value) (ok : Bool) (W : World) : Prop where
  be : Below w0.heap.size w0 W
  tt : W.heap[bT]? = some (.cells #[.func (.func fT) #[] caps] 96 (0, 0))
  kk : W.heap[bO]? = some (.cells #[.bool ok] 4 (0, 0))
  wk : W.heap[bW]? = some (.cells #[.func (.func 128) #[] #[.pointer (some ⟨bT, 0, none⟩), .pointer (some ⟨bO, 0, none⟩), .pointer (some ⟨bW, 0, none⟩)]] 40 (0, 0))
  nt : w0.heap.size ≤ bT
  no : w0.heap.size ≤ bO
  nw : w0.heap.size ≤ bW
structure Bx (w0 : World) (bT bO bW : Nat) (fT : FuncId) (caps : Array Value) (W : World) (t : Tm) (i : Int) (v : Value) (ok : Bool) (W1 : World) : Prop where
  bx : W1.heap[W.heap.size]? = some (.cells #[.int .i64 t.f0, .string t.f1, .int .i64 i, v] 25 (0, 0))
  rs : W1.heap[W.heap.size + 1]? = some (.cells #[.int .i64 0, .string ⟨#[]⟩, .int .i64 0, .slice none 0 0] 25 (0, 0))
  mv : Mv w0 bT bO bW fT caps ok W1
  kp : Kept W W1 (fun k => k = bO)
  sz : w0.heap.size ≤ W.heap.size
theorem Mv.below {w0 W W1 : World} {bT bO bW fT caps ok} (h : Mv w0 bT bO bW fT caps ok W) (hb : Below W.heap.size W W1) : Mv w0 bT bO bW fT caps ok W1 :=
  ⟨h.be.trans ⟨hb.os, hb.tape, hb.output, hb.size, fun k hk => hb.block k (Nat.lt_of_lt_of_le hk h.be.size)⟩, (hb.block _ (blk_lt h.tt)).trans h.tt, (hb.block _ (blk_lt h.kk)).trans h.kk, (hb.block _ (blk_lt h.wk)).trans h.wk, h.nt, h.no, h.nw⟩
theorem Bx.below {w0 W W1 W2 : World} {bT bO bW fT caps ok t i v} (h : Bx w0 bT bO bW fT caps W t i v ok W1) (hb : Below W1.heap.size W1 W2) : Bx w0 bT bO bW fT caps W t i v ok W2 :=
  ⟨(hb.block _ (blk_lt h.bx)).trans h.bx, (hb.block _ (blk_lt h.rs)).trans h.rs, h.mv.below hb, h.kp.below hb, h.sz⟩
theorem Bx.new {w0 W : World} {bT bO bW fT caps ok} {t : Tm} {v : Value} (h : Mv w0 bT bO bW fT caps ok W) : Bx w0 bT bO bW fT caps W t t.f2 v ok ((W.alloc (.cells #[.int .i64 t.f0, .string t.f1, .int .i64 t.f2, v] 25)).alloc (.cells #[.int .i64 0, .string ⟨#[]⟩, .int .i64 0, .slice none 0 0] 25)) :=
  ⟨yC (blk_new W _) _, (by have := blk_new (W.alloc (.cells #[.int .i64 t.f0, .string t.f1, .int .i64 t.f2, v] 25)) (.cells #[.int .i64 0, .string ⟨#[]⟩, .int .i64 0, .slice none 0 0] 25); simpa using this),
    (h.below (yF (Below.refl _ _) _)).below (yF (Below.refl _ _) _), ((Kept.refl W _).alloc _).alloc _, h.be.size⟩
theorem Bx.ne {w0 W W1 : World} {bT bO bW fT caps ok t i v} (h : Bx w0 bT bO bW fT caps W t i v ok W1) : W.heap.size ≠ bO := by
  rintro rfl
  have := h.bx.symm.trans h.mv.kk
  injection this with this
  injection this with _ this _
  cases this
theorem Bx.setI {w0 W W1 : World} {bT bO bW fT caps ok t i v} (h : Bx w0 bT bO bW fT caps W t i v ok W1) (i' : Int) : Bx w0 bT bO bW fT caps W t i' v ok (W1.setCell ⟨W.heap.size, 2, none⟩ (.int .i64 i')) := by
  have hn := h.ne
  have hk : ∀ k, k ≠ W.heap.size → (W1.setCell ⟨W.heap.size, 2, none⟩ (.int .i64 i')).heap[k]? = W1.heap[k]? := fun k hk => Below.heap_setCell W1 ⟨W.heap.size, 2, none⟩ _ k hk
  have hT : bT ≠ W.heap.size := by
    rintro rfl
    have := h.bx.symm.trans h.mv.tt
    injection this with this
    injection this with _ this _
    cases this
  have hW : bW ≠ W.heap.size := by
    rintro rfl
    have := h.bx.symm.trans h.mv.wk
    injection this with this
    injection this with _ this _
    cases this
  have hw0 := h.sz
  exact ⟨(blk_set h.bx 2 _).trans rfl, (hk _ (by omega)).trans h.rs, ⟨h.mv.be.setCell hw0 _, (hk _ hT).trans h.mv.tt, (hk _ (Ne.symm hn)).trans h.mv.kk, (hk _ hW).trans h.mv.wk, h.mv.nt, h.mv.no, h.mv.nw⟩, h.kp.setCell (.inr (Nat.le_refl _)) _, h.sz⟩
theorem Bx.setV {w0 W W1 : World} {bT bO bW fT caps ok t i v} (h : Bx w0 bT bO bW fT caps W t i v ok W1) (v' : Value) : Bx w0 bT bO bW fT caps W t i v' ok (W1.setCell ⟨W.heap.size, 3, none⟩ v') := by
  have hn := h.ne
  have hk : ∀ k, k ≠ W.heap.size → (W1.setCell ⟨W.heap.size, 3, none⟩ v').heap[k]? = W1.heap[k]? := fun k hk => Below.heap_setCell W1 ⟨W.heap.size, 3, none⟩ _ k hk
  have hT : bT ≠ W.heap.size := by
    rintro rfl
    have := h.bx.symm.trans h.mv.tt
    injection this with this
    injection this with _ this _
    cases this
  have hW : bW ≠ W.heap.size := by
    rintro rfl
    have := h.bx.symm.trans h.mv.wk
    injection this with this
    injection this with _ this _
    cases this
  exact ⟨(blk_set h.bx 3 _).trans rfl, (hk _ (by omega)).trans h.rs, ⟨h.mv.be.setCell h.sz _, (hk _ hT).trans h.mv.tt, (hk _ (Ne.symm hn)).trans h.mv.kk, (hk _ hW).trans h.mv.wk, h.mv.nt, h.mv.no, h.mv.nw⟩, h.kp.setCell (.inr (Nat.le_refl _)) _, h.sz⟩
theorem Bx.setO {w0 W W1 : World} {bT bO bW fT caps ok t i v} (h : Bx w0 bT bO bW fT caps W t i v ok W1) (ok' : Bool) : Bx w0 bT bO bW fT caps W t i v ok' (W1.setCell ⟨bO, 0, none⟩ (.bool ok')) := by
  have hn := h.ne
  have hk : ∀ k, k ≠ bO → (W1.setCell ⟨bO, 0, none⟩ (.bool ok')).heap[k]? = W1.heap[k]? := fun k hk => Below.heap_setCell W1 ⟨bO, 0, none⟩ _ k hk
  have hT : bT ≠ bO := by
    rintro rfl
    have := h.mv.tt.symm.trans h.mv.kk
    injection this with this
    injection this with _ this _
    cases this
  have hW : bW ≠ bO := by
    rintro rfl
    have := h.mv.wk.symm.trans h.mv.kk
    injection this with this
    injection this with _ this _
    cases this
  have hR : W.heap.size + 1 ≠ bO := by
    intro e
    have := h.rs
    rw [e] at this
    have := this.symm.trans h.mv.kk
    injection this with this
    injection this with _ this _
    cases this
  exact ⟨(hk _ hn).trans h.bx, (hk _ hR).trans h.rs, ⟨h.mv.be.setCell h.mv.no _, (hk _ hT).trans h.mv.tt, (blk_set h.mv.kk 0 _).trans rfl, (hk _ hW).trans h.mv.wk, h.mv.nt, h.mv.no, h.mv.nw⟩, h.kp.setCell (.inl rfl) _, h.sz⟩
def mxL (F : Int → Int × Bool) (k0 b : Int) (l : List Tm) (k : Nat) : List Tm := mvL F k0 b 0 (l.take k) ++ l.drop k
theorem mvL_append (F : Int → Int × Bool) (k0 b : Int) (l2 : List Tm) : ∀ (l1 : List Tm) (j : Nat), mvL F k0 b j (l1 ++ l2) = mvL F k0 b j l1 ++ mvL F k0 b (j + l1.length) l2
  | [], j => by simp [mvL]
  | u :: us, j => by
    simp only [List.cons_append, mvL, mvL_append F k0 b l2 us (j + 1), List.length_cons]
    rw [show j + 1 + us.length = j + (us.length + 1) by omega]
theorem okL_append (F : Int → Int × Bool) (k0 b : Int) (l2 : List Tm) : ∀ (l1 : List Tm) (j : Nat), okL F k0 b j (l1 ++ l2) = (okL F k0 b j l1 && okL F k0 b (j + l1.length) l2)
  | [], j => by simp [okL]
  | u :: us, j => by
    simp only [List.cons_append, okL, okL_append F k0 b l2 us (j + 1), List.length_cons, Bool.and_assoc]
    rw [show j + 1 + us.length = j + (us.length + 1) by omega]
theorem mxL_zero (F : Int → Int × Bool) (k0 b : Int) (l : List Tm) : mxL F k0 b l 0 = l := by simp [mxL, mvL]
theorem mxL_all (F : Int → Int × Bool) (k0 b : Int) (l : List Tm) : mxL F k0 b l l.length = mvL F k0 b 0 l := by simp [mxL]
theorem mxL_get (F : Int → Int × Bool) (k0 b : Int) (l : List Tm) {k : Nat} (h : k < l.length) (z : Tm) : (mxL F k0 b l k).getD k z = l[k] := by
  unfold mxL
  rw [List.getD_eq_getElem?_getD, List.getElem?_append_right (by rw [mvL_len, List.length_take]; omega), mvL_len, List.length_take, Nat.min_eq_left (by omega), Nat.sub_self, List.getElem?_drop, Nat.add_zero, List.getElem?_eq_getElem h]
  rfl
theorem mxL_len (F : Int → Int × Bool) (k0 b : Int) (l : List Tm) {k : Nat} (h : k ≤ l.length) : (mxL F k0 b l k).length = l.length := by
  unfold mxL
  rw [List.length_append, mvL_len, List.length_take, List.length_drop]
  omega
theorem mxL_set (F : Int → Int × Bool) (k0 b : Int) (l : List Tm) {k : Nat} (h : k < l.length) : (mxL F k0 b l k).set k (mvT F (inB k0 b k) l[k]) = mxL F k0 b l (k + 1) := by
  have h1 : (mvL F k0 b 0 (l.take k)).length = k := by rw [mvL_len, List.length_take]; omega
  unfold mxL
  rw [List.set_append_right _ _ (by omega), h1, Nat.sub_self, List.drop_eq_getElem_cons h, List.set_cons_zero, List.take_succ_eq_append_getElem h, mvL_append]
  simp only [List.length_take, Nat.min_eq_left (Nat.le_of_lt h), Nat.zero_add, mvL, List.append_assoc, List.cons_append, List.nil_append]
theorem okL_succ (F : Int → Int × Bool) (k0 b : Int) (l : List Tm) {k : Nat} (h : k < l.length) : okL F k0 b 0 (l.take (k + 1)) = (okL F k0 b 0 (l.take k) && okM F (inB k0 b k) l[k]) := by
  rw [List.take_succ_eq_append_getElem h, okL_append]
  simp [okL, Nat.min_eq_left (Nat.le_of_lt h)]
structure Rn (w0 : World) (bT bO bW : Nat) (fT : FuncId) (caps : Array Value) (W : World) (P : Nat → Prop) (t : Tm) (i : Int) (A : Option Addr) (cc : Nat) (ok : Bool) (L : List Tm) (W1 : World) : Prop where
  b : Bx w0 bT bO bW fT caps W t i (.slice A t.f3.length cc) ok W1
  n : Kd.N k25 25 W1 W.heap.size (fun k => P k ∨ W.heap.size + 2 ≤ k) (.slice A t.f3.length cc) L
theorem Rn.below {w0 W W1 W2 : World} {bT bO bW fT caps P t i A cc ok L} (h : Rn w0 bT bO bW fT caps W P t i A cc ok L W1) (hb : Below W1.heap.size W1 W2) : Rn w0 bT bO bW fT caps W P t i A cc ok L W2 := ⟨h.b.below hb, Kd.N_below h.n hb⟩
theorem Rn.drew {w0 W W1 : World} {bT bO bW fT caps P t i A cc ok L} (h : Rn w0 bT bO bW fT caps W P t i A cc ok L W1) : Rn w0 bT bO bW fT caps W P t i A cc ok L W1.drew := h.below (below_drew (Below.refl _ _))
theorem Rn.kept {w0 W W1 W2 : World} {bT bO bW fT caps P t i A cc ok ok' L} (h : Rn w0 bT bO bW fT caps W P t i A cc ok L W1) (hb : Kept W1 W2 (fun k => k = bO)) (hm : Mv w0 bT bO bW fT caps ok' W2) (hP : ∀ k, P k → k < W.heap.size ∧ k ≠ bO) (hO : bO < W.heap.size) : Rn w0 bT bO bW fT caps W P t i A cc ok' L W2 :=
  ⟨⟨blk_kept h.b.bx hb (by omega), blk_kept h.b.rs hb (by omega), hm, h.b.kp.then_ hb (fun k hk => .inl hk), h.b.sz⟩, Kd.N_kept h.n hb (fun k hk => by rcases hk with hk | hk; exact (hP k hk).2; omega)⟩
theorem row4 {W : World} {base g n cap : Nat} {okk : Nat → Prop} {L : List Tm} (h : Kd.N k25 25 W base okk (.slice (some ⟨g, 0, none⟩) n cap) L) {k : Nat} (hk : k < n) :
    ∃ q0 q1 q2 q3 : Value, (W.cell? ⟨g, k * 4, none⟩ = some q0 ∧ W.cell? ⟨g, k * 4 + 1, none⟩ = some q1 ∧ W.cell? ⟨g, k * 4 + 2, none⟩ = some q2 ∧ W.cell? ⟨g, k * 4 + 3, none⟩ = some q3) ∧ (W.frozen? ⟨g, k * 4, none⟩ = false ∧ W.frozen? ⟨g, k * 4 + 1, none⟩ = false ∧ W.frozen? ⟨g, k * 4 + 2, none⟩ = false ∧ W.frozen? ⟨g, k * 4 + 3, none⟩ = false) := by
  obtain ⟨cs, hcl, hfk, hcc, hfr⟩ := Kd.N_elem h ⟨0, ⟨#[]⟩, 0, []⟩ (k : Int) (by omega) (by omega)
  obtain ⟨A3, c3, rfl, hl3, hF3⟩ := k25_openF hfk
  have hsz : k25.sz = 4 := rfl
  rw [hsz, Int.toNat_natCast] at hcc hfr
  exact ⟨_, _, _, _, ⟨hcc 0 _ rfl, hcc 1 _ rfl, hcc 2 _ rfl, hcc 3 _ rfl⟩, hfr 0, hfr 1, hfr 2, hfr 3⟩
theorem mvT_eq (F : Int → Int × Bool) (b : Int) (x : Tm) : mvT F b x = ⟨x.f0, x.f1, mvI F b x.f0 x.f2, mvL F x.f0 b 0 x.f3⟩ := by cases x; rw [mvT]
theorem okM_eq (F : Int → Int × Bool) (b : Int) (x : Tm) : okM F b x = (mvB F b x.f0 x.f2 && okL F x.f0 b 0 x.f3) := by cases x; rw [okM]
abbrev stT (W : World) (g k : Nat) (f0 : Int) (f1 : ByteArray) (f2 : Int) (v : Value) : World := (((W.setCell ⟨g, k * 4, none⟩ (.int .i64 f0)).setCell ⟨g, k * 4 + 1, none⟩ (.string f1)).setCell ⟨g, k * 4 + 2, none⟩ (.int .i64 f2)).setCell ⟨g, k * 4 + 3, none⟩ v
theorem row_set {W : World} {base g n cap : Nat} {okk okp : Nat → Prop} {L : List Tm} (h : Kd.N k25 25 W base okk (.slice (some ⟨g, 0, none⟩) n cap) L) {k : Nat} (hk : k < n) (y : Tm) {A5 : Option Addr} {c5 : Nat} (hl : y.f3.length ≤ c5) (hF : Kd.F k25 W okp A5 y.f3.length y.f3) (hok : ∀ q, okp q → okk q ∧ q ≠ g) :
    Kd.N k25 25 (stT W g k y.f0 y.f1 y.f2 (.slice A5 y.f3.length c5)) base okk (.slice (some ⟨g, 0, none⟩) n cap) (L.set k y) ∧ W.grownBy (stT W g k y.f0 y.f1 y.f2 (.slice A5 y.f3.length c5)) (some g) := by
  obtain ⟨cs, hcl, hfk, hcc, hfr⟩ := Kd.N_elem h ⟨0, ⟨#[]⟩, 0, []⟩ (k : Int) (by omega) (by omega)
  obtain ⟨A3, c3, rfl, hl3, hF3⟩ := k25_openF hfk
  have := Kd.N_seg h (k : Int) (by omega) (by omega) (seg := [.int .i64 y.f0, .string y.f1, .int .i64 y.f2, .slice A5 y.f3.length c5]) (j := 0) hcl hcc (Nat.le_refl _) (x' := y) (okp := okp) (k25_mkF W okp y hl hF) hok
  rw [Int.toNat_natCast] at this
  exact this
theorem Rn.grown {w0 W W1 W2 : World} {bT bO bW fT caps P t i A cc ok L L'} {g : Nat} (h : Rn w0 bT bO bW fT caps W P t i A cc ok L W1) (hn : Kd.N k25 25 W2 W.heap.size (fun k => P k ∨ W.heap.size + 2 ≤ k) (.slice A t.f3.length cc) L' ∧ W1.grownBy W2 (some g)) (hg : W.heap.size + 2 ≤ g) (hT : bT < W.heap.size) (hO : bO < W.heap.size) (hW : bW < W.heap.size) : Rn w0 bT bO bW fT caps W P t i A cc ok L' W2 := by
  have hb : ∀ {k o}, W1.heap[k]? = some o → k ≠ g → W2.heap[k]? = some o := fun hk hne => (hn.2.block _ (blk_lt hk) (fun e => hne (Option.some.inj e))).trans hk
  have h1 := h.b.sz
  exact ⟨⟨hb h.b.bx (by omega), hb h.b.rs (by omega), ⟨h.b.mv.be.grown hn.2 h.b.mv.be.size (fun k e => by have := Option.some.inj e; omega), hb h.b.mv.tt (by omega), hb h.b.mv.kk (by omega), hb h.b.mv.wk (by omega), h.b.mv.nt, h.b.mv.no, h.b.mv.nw⟩, Kept.of_grown hn.2 h.b.kp (fun k e => .inr (by have := Option.some.inj e; omega)), h.b.sz⟩, hn.1⟩
theorem Rn.S {w0 W W1 : World} {bT bO bW fT caps P t i A cc ok L} {ba : Nat} {x : Tm} {A3 : Option Addr} {c3 : Nat} (h : Rn w0 bT bO bW fT caps W P t i A cc ok L W1) (ha : W1.heap[ba]? = some (.cells #[.int .i64 x.f0, .string x.f1, .int .i64 x.f2, .slice A3 x.f3.length c3] 25 (0, 0))) :
    W1.cell? ⟨W.heap.size, 3, none⟩ = some (.slice A t.f3.length cc) ∧ W1.cell? ⟨bW, 0, none⟩ = some (.func (.func 128) #[] #[.pointer (some ⟨bT, 0, none⟩), .pointer (some ⟨bO, 0, none⟩), .pointer (some ⟨bW, 0, none⟩)]) ∧ W1.cell? ⟨ba, 0, none⟩ = some (.int .i64 x.f0) ∧ W1.cell? ⟨ba, 1, none⟩ = some (.string x.f1) ∧ W1.cell? ⟨ba, 2, none⟩ = some (.int .i64 x.f2) ∧ W1.cell? ⟨ba, 3, none⟩ = some (.slice A3 x.f3.length c3) :=
  ⟨(yE h.b.bx 3).trans rfl, (yE h.b.mv.wk 0).trans rfl, (yE ha 0).trans rfl, (yE ha 1).trans rfl, (yE ha 2).trans rfl, (yE ha 3).trans rfl⟩
theorem blk4 {W : World} {g : Nat} (f0 : Int) (f1 : ByteArray) (f2 : Int) (v : Value) (h : W.heap[g]? = some (.cells #[.int .i64 0, .string ⟨#[]⟩, .int .i64 0, .slice none 0 0] 25 (0, 0))) :
    ((((W.setCell ⟨g, 0, none⟩ (.int .i64 f0)).setCell ⟨g, 1, none⟩ (.string f1)).setCell ⟨g, 2, none⟩ (.int .i64 f2)).setCell ⟨g, 3, none⟩ v).heap[g]? = some (.cells #[.int .i64 f0, .string f1, .int .i64 f2, v] 25 (0, 0)) :=
  (blk_set ((blk_set ((blk_set ((blk_set h 0 _).trans rfl) 1 _).trans rfl) 2 _).trans rfl) 3 _).trans rfl
theorem Rn.fin {w0 W W1 : World} {bT bO bW fT caps P t i A cc ok L} (h : Rn w0 bT bO bW fT caps W P t i A cc ok L W1) (hP : ∀ k, P k → k < W.heap.size ∧ k ≠ bO) (hT : bT < W.heap.size) (hO : bO < W.heap.size) (hW : bW < W.heap.size) (u0 u1 u2 u3 : Value) :
    Kd.N k25 25 ((((W1.setCell ⟨W.heap.size + 1, 0, none⟩ u0).setCell ⟨W.heap.size + 1, 1, none⟩ u1).setCell ⟨W.heap.size + 1, 2, none⟩ u2).setCell ⟨W.heap.size + 1, 3, none⟩ u3) W.heap.size (fun k => P k ∨ W.heap.size ≤ k) (.slice A t.f3.length cc) L ∧
    Mv w0 bT bO bW fT caps ok ((((W1.setCell ⟨W.heap.size + 1, 0, none⟩ u0).setCell ⟨W.heap.size + 1, 1, none⟩ u1).setCell ⟨W.heap.size + 1, 2, none⟩ u2).setCell ⟨W.heap.size + 1, 3, none⟩ u3) ∧
    Kept W ((((W1.setCell ⟨W.heap.size + 1, 0, none⟩ u0).setCell ⟨W.heap.size + 1, 1, none⟩ u1).setCell ⟨W.heap.size + 1, 2, none⟩ u2).setCell ⟨W.heap.size + 1, 3, none⟩ u3) (fun k => k = bO) := by
  have hk : ∀ k, k ≠ W.heap.size + 1 → ((((W1.setCell ⟨W.heap.size + 1, 0, none⟩ u0).setCell ⟨W.heap.size + 1, 1, none⟩ u1).setCell ⟨W.heap.size + 1, 2, none⟩ u2).setCell ⟨W.heap.size + 1, 3, none⟩ u3).heap[k]? = W1.heap[k]? := fun k hk =>
    (Below.heap_setCell _ ⟨W.heap.size + 1, 3, none⟩ _ k hk).trans ((Below.heap_setCell _ ⟨W.heap.size + 1, 2, none⟩ _ k hk).trans ((Below.heap_setCell _ ⟨W.heap.size + 1, 1, none⟩ _ k hk).trans (Below.heap_setCell _ ⟨W.heap.size + 1, 0, none⟩ _ k hk)))
  have h1 := h.b.sz
  have hw : w0.heap.size ≤ W.heap.size + 1 := by omega
  refine ⟨Kd.N_mono (Kd.N_step h.n (fun k ho _ => hk k ?_)) (fun k ho => ?_), ⟨(((h.b.mv.be.setCell hw _).setCell hw _).setCell hw _).setCell hw _, (hk _ (by omega)).trans h.b.mv.tt, (hk _ (by omega)).trans h.b.mv.kk, (hk _ (by omega)).trans h.b.mv.wk, h.b.mv.nt, h.b.mv.no, h.b.mv.nw⟩, (((h.b.kp.setCell (.inr (by simp)) _).setCell (.inr (by simp)) _).setCell (.inr (by simp)) _).setCell (.inr (by simp)) _⟩
  · rcases ho with ho | ho
    · have := (hP k ho).1; omega
    · omega
  · rcases ho with ho | ho
    · exact .inl ho
    · exact .inr (by omega)
set_option maxHeartbeats 4000000 in
set_option maxRecDepth 100000 in
theorem mv_step (w0 : World) (bT bO bW : Nat) (fT : FuncId) (caps : Array Value) (F : Int → Int × Bool)
    (hfT : ∀ (a : Array Value) (W : World), Sem.run Tryd.prog (callFunc fT a) W = .ok (.enter fT a) W)
    (X : Int → Bool) (hto : ∀ (W : World) (x : Int), X x = true → Below w0.heap.size w0 W → Calls Tryd.prog fT (#[.int .i64 x] ++ caps) W fun e W' => e = .returned (.tuple #[.int .i64 (F x).1, .bool (F x).2]) ∧ Below W.heap.size W W')
    (t : Tm) (hlen : t.f3.length ≤ 1000000)
    (ih : ∀ u, u ∈ t.f3 → ∀ (b : Int) (A : Option Addr) (c : Nat) (P : Nat → Prop) (ok : Bool) (W : World), Mv w0 bT bO bW fT caps ok W → Kd.F k25 W P A u.f3.length u.f3 → u.f3.length ≤ c → (∀ k, P k → k < W.heap.size ∧ k ≠ bO) → xT X b u = true →
      Calls Tryd.prog 128 #[.agg #[.int .i64 u.f0, .string u.f1, .int .i64 u.f2, .slice A u.f3.length c], .int .i64 b, .pointer (some ⟨bT, 0, none⟩), .pointer (some ⟨bO, 0, none⟩), .pointer (some ⟨bW, 0, none⟩)] W fun e W' =>
        ∃ v, e = .returned (.agg #[.int .i64 u.f0, .string u.f1, .int .i64 (mvI F b u.f0 u.f2), v]) ∧ Kd.N k25 25 W' W.heap.size (fun k => P k ∨ W.heap.size ≤ k) v (mvL F u.f0 b 0 u.f3) ∧ Mv w0 bT bO bW fT caps (ok && okM F b u) W' ∧ Kept W W' (fun k => k = bO))
    (b : Int) (A : Option Addr) (c : Nat) (P : Nat → Prop) (ok : Bool) (W : World) (hM : Mv w0 bT bO bW fT caps ok W) (hF : Kd.F k25 W P A t.f3.length t.f3) (hc : t.f3.length ≤ c) (hP : ∀ k, P k → k < W.heap.size ∧ k ≠ bO) (hx : xT X b t = true) :
      Calls Tryd.prog 128 #[.agg #[.int .i64 t.f0, .string t.f1, .int .i64 t.f2, .slice A t.f3.length c], .int .i64 b, .pointer (some ⟨bT, 0, none⟩), .pointer (some ⟨bO, 0, none⟩), .pointer (some ⟨bW, 0, none⟩)] W fun e W' =>
        ∃ v, e = .returned (.agg #[.int .i64 t.f0, .string t.f1, .int .i64 (mvI F b t.f0 t.f2), v]) ∧ Kd.N k25 25 W' W.heap.size (fun k => P k ∨ W.heap.size ≤ k) v (mvL F t.f0 b 0 t.f3) ∧ Mv w0 bT bO bW fT caps (ok && okM F b t) W' ∧ Kept W W' (fun k => k = bO) := by
  have HM := Lib.hid hM
  have HF := Lib.hid hF
  have HP := Lib.hid hP
  have HTO := Lib.hid hto
  have HIH := Lib.hid ih
  rw [xT_eq, Bool.and_eq_true] at hx
  have HX1 := Lib.hid hx.1
  have HX2 := Lib.hid hx.2
  clear hx
  have c1 : W.cell? ⟨bT, 0, none⟩ = some (.func (.func fT) #[] caps) := (yE hM.tt 0).trans rfl
  have c2 : W.cell? ⟨bO, 0, none⟩ = some (.bool ok) := (yE hM.kk 0).trans rfl
  have l1 := blk_lt hM.tt
  have l2 := blk_lt hM.kk
  clear hM hF hP hto ih
  have HB0 := Lib.hid (Bx.new (t := t) (v := .slice A t.f3.length c) HM.out)
  go_enter Tryd.func128, Tryd.ntmps128
  go_upto_region 1 with fail
  go_cut [21] (fun s w1 => s = .bool (decide (t.f0 = 5) && decide (t.f2 ≥ b)) ∧ Hid (Bx w0 bT bO bW fT caps W t t.f2 (.slice A t.f3.length c) ok w1))
  case first =>
    by_cases k5 : t.f0 = 5
    · have k5b : (t.f0 == 5) = true := beq_iff_eq.mpr k5
      have K5 := Lib.hid k5
      clear k5
      go_wp2_with fail
      go_meet
      case rel => exact ⟨by simp [K5.out], HB0⟩
    · have k5b : (t.f0 == 5) = false := beq_eq_false_iff_ne.mpr k5
      go_wp2_with fail
      go_meet
      case rel => exact ⟨by simp [k5], HB0⟩
  case rest =>
    obtain ⟨rfl, HB⟩ := hcut
    clear HB0 c1 c2 l1 l2
    go_upto_if 21 with fail
    go_cut [] (fun w1 => Hid (Bx w0 bT bO bW fT caps W t (mvI F b t.f0 t.f2) (.slice A t.f3.length c) (ok && mvB F b t.f0 t.f2) w1))
    case first =>
      by_cases h5 : t.f0 = 5 ∧ t.f2 ≥ b
      · have e5 : (decide (t.f0 = 5) && decide (t.f2 ≥ b)) = true := by simp [h5.1, h5.2]
        have c1 : wc.cell? ⟨bT, 0, none⟩ = some (.func (.func fT) #[] caps) := (yE HB.out.mv.tt 0).trans rfl
        have g2 : wc.cell? ⟨W.heap.size, 2, none⟩ = some (.int .i64 t.f2) := (yE HB.out.bx 2).trans rfl
        have HI : Hid (mvI F b t.f0 t.f2 = wrap64 ((F (wrap64 (t.f2 - b))).1 + b) ∧ mvB F b t.f0 t.f2 = ((F (wrap64 (t.f2 - b))).2 && (decide ((F (wrap64 (t.f2 - b))).1 ≥ 0) && decide ((F (wrap64 (t.f2 - b))).1 ≤ wrap64 (1048576 - b))))) := Lib.hid (by simp only [mvI, mvB, h5, if_true, and_self])
        have hX5 : X (wrap64 (t.f2 - b)) = true := by have := HX1.out; rw [e5] at this; simpa using this
        clear h5
        rw [e5]
        go_wp2_with fail
        refine (HTO.out _ _ hX5 HB.out.mv.be).mono ?_
        rintro e W2 ⟨rfl, hb⟩
        have HB2 := Lib.hid (HB.out.below hb)
        clear hb c1 g2 HB e5
        revert HI
        generalize F (wrap64 (t.f2 - b)) = r
        obtain ⟨n, f⟩ := r
        dsimp only
        intro HI
        have HB3 := Lib.hid (HB2.out.setO false)
        have c2 : W2.cell? ⟨W.heap.size, 2, none⟩ = some (.int .i64 t.f2) := (yE HB2.out.bx 2).trans rfl
        have f2 : W2.frozen? ⟨W.heap.size, 2, none⟩ = false := yD HB2.out.bx _
        have cO : W2.cell? ⟨bO, 0, none⟩ = some (.bool ok) := (yE HB2.out.mv.kk 0).trans rfl
        have fO : W2.frozen? ⟨bO, 0, none⟩ = false := yD HB2.out.mv.kk _
        have c3 : (W2.setCell ⟨bO, 0, none⟩ (.bool false)).cell? ⟨W.heap.size, 2, none⟩ = some (.int .i64 t.f2) := (yE HB3.out.bx 2).trans rfl
        have f3 : (W2.setCell ⟨bO, 0, none⟩ (.bool false)).frozen? ⟨W.heap.size, 2, none⟩ = false := yD HB3.out.bx _
        have HX : Hid (Bx w0 bT bO bW fT caps W t (mvI F b t.f0 t.f2) (.slice A t.f3.length c) false ((W2.setCell ⟨bO, 0, none⟩ (.bool false)).setCell ⟨W.heap.size, 2, none⟩ (.int .i64 (wrap64 (n + b))))) := Lib.hid (by rw [HI.out.1]; exact HB3.out.setI _)
        have HY : Hid (Bx w0 bT bO bW fT caps W t (mvI F b t.f0 t.f2) (.slice A t.f3.length c) ok (W2.setCell ⟨W.heap.size, 2, none⟩ (.int .i64 (wrap64 (n + b))))) := Lib.hid (by rw [HI.out.1]; exact HB2.out.setI _)
        cases f
        · have HZ : Hid ((ok && mvB F b t.f0 t.f2) = false) := Lib.hid (by rw [HI.out.2]; simp)
          go_wp2_with fail
          go_meet
          case rel => rw [HZ.out]; exact HX
        · by_cases h0 : n < 0
          · have HZ : Hid ((ok && mvB F b t.f0 t.f2) = false) := Lib.hid (by rw [HI.out.2]; simp; omega)
            have h0b : decide (n < 0) = true := decide_eq_true h0
            go_wp2_with fail
            go_meet
            case rel => rw [HZ.out]; exact HX
          · have h0b : decide (n < 0) = false := decide_eq_false h0
            by_cases h1 : wrap64 (1048576 - b) < n
            · have HZ : Hid ((ok && mvB F b t.f0 t.f2) = false) := Lib.hid (by rw [HI.out.2]; simp; omega)
              have h1b : decide (wrap64 (1048576 - b) < n) = true := decide_eq_true h1
              go_wp2_with fail
              go_meet
              case rel => rw [HZ.out]; exact HX
            · have HZ : Hid ((ok && mvB F b t.f0 t.f2) = ok) := Lib.hid (by rw [HI.out.2]; simp; omega)
              have h1b : decide (wrap64 (1048576 - b) < n) = false := decide_eq_false h1
              go_wp2_with fail
              go_meet
              case rel => rw [HZ.out]; exact HY
      · have e5 : (decide (t.f0 = 5) && decide (t.f2 ≥ b)) = false := by simpa using h5
        have HZ : Hid ((ok && mvB F b t.f0 t.f2) = ok) := Lib.hid (by simp [mvB, h5])
        have HI : Hid (mvI F b t.f0 t.f2 = t.f2) := Lib.hid (by simp only [mvI, h5, if_false])
        rw [e5]
        clear e5 h5
        go_wp2_with fail
        go_meet
        case rel => rw [HZ.out, HI.out]; exact HB
    case rest =>
      have HB := hcut;clear hcut
      have c3 : wc.cell? ⟨W.heap.size, 3, none⟩ = some (.slice A t.f3.length c) := (yE HB.out.bx 3).trans rfl
      have HF1 : Hid (Kd.F k25 wc P A t.f3.length t.f3) := Lib.hid (Kd.F_kept HF.out HB.out.kp (fun k hk => (HP.out k hk).2))
      have HP1 : Hid (∀ k, P k → k < wc.heap.size) := Lib.hid (fun k hk => Nat.lt_of_lt_of_le (HP.out k hk).1 HB.out.kp.1)
      go_wp2_with (go_at_call 129; (with_reducible refine (clone_any A c t.f3 P _ HF1.out HP1.out hlen).mono ?_); rintro e W3 ⟨v, rfl, hn, hb⟩; have HB3 := Lib.hid (HB.out.below hb); have HN3 := Lib.hid hn; obtain ⟨A1, cc, rfl⟩ := Kd.N_slice hn; have c4 : W3.cell? ⟨W.heap.size, 3, none⟩ = some (.slice A t.f3.length c) := (yE HB3.out.bx 3).trans rfl; have f4 : W3.frozen? ⟨W.heap.size, 3, none⟩ = false := yD HB3.out.bx _; have c5 : (W3.setCell ⟨W.heap.size, 3, none⟩ (.slice A1 t.f3.length cc)).cell? ⟨W.heap.size, 3, none⟩ = some (.slice A1 t.f3.length cc) := (yE (HB3.out.setV _).bx 3).trans rfl; clear hn hb)
      have HR : Hid (Rn w0 bT bO bW fT caps W P t (mvI F b t.f0 t.f2) A1 cc (ok && mvB F b t.f0 t.f2) t.f3 (W3.setCell ⟨W.heap.size, 3, none⟩ (.slice A1 t.f3.length cc))) := Lib.hid (by
        have hx := blk_lt HB.out.bx
        have hr := blk_lt HB.out.rs
        refine ⟨HB3.out.setV _, Kd.N_mono (Kd.N_lower (Kd.N_far HN3.out (p := ⟨W.heap.size, 3, none⟩) (fun k hk => ?_) _) HB.out.kp.1) (fun k hk => ?_)⟩
        · rcases hk with hk | hk
          · have := (HP.out k hk).1; show k ≠ W.heap.size; omega
          · show k ≠ W.heap.size; omega
        · rcases hk with hk | hk
          · exact .inl hk
          · exact .inr (by omega))
      clear HB HB3 HN3 c3 c4 f4 c5 HF1 HP1
      go_loopw [54] (fun v54 wr => ∃ k : Nat, k ≤ t.f3.length ∧ v54 = .int .i64 k ∧ Hid (Rn w0 bT bO bW fT caps W P t (mvI F b t.f0 t.f2) A1 cc (ok && mvB F b t.f0 t.f2 && okL F t.f0 b 0 (t.f3.take k)) (mxL F t.f0 b t.f3 k) wr)) (fun v54 _ => t.f3.length - (intOf v54).toNat)
      case atStart => exact ⟨0, Nat.zero_le _, rfl, by simpa [okL, mxL_zero] using HR⟩
      case round =>
        obtain ⟨k, hk, rfl, HRk⟩ := hrel
        clear HR
        by_cases hlt : k < t.f3.length
        · obtain ⟨g, cap, e1, hg1, hg2, -⟩ := Kd.N_form HRk.out.n (by rw [mxL_len _ _ _ _ hk]; omega)
          rw [mxL_len _ _ _ _ hk] at e1
          injection e1 with e1 _ e2
          subst e1 e2
          obtain ⟨cs, hcl, hfk, hcc, hfr⟩ := Kd.N_elem HRk.out.n t (k : Int) (by omega) (by omega)
          rw [Int.toNat_natCast, mxL_get _ _ _ _ hlt] at hfk
          obtain ⟨A3, c3, rfl, hl3, hF3⟩ := k25_openF hfk
          have h0 := hcc 0 _ rfl
          have h1 := hcc 1 _ rfl
          have h2 := hcc 2 _ rfl
          have h3 := hcc 3 _ rfl
          clear hcc hcl hfk
          have hsz : k25.sz = 4 := rfl
          rw [hsz, Int.toNat_natCast] at h0 h1 h2 h3
          rw [Nat.add_zero] at h0
          clear hsz
          have HD : Hid (okL F t.f0 b 0 (t.f3.take (k + 1)) = (okL F t.f0 b 0 (t.f3.take k) && okM F (inB t.f0 b k) t.f3[k]) ∧ (mxL F t.f0 b t.f3 k).set k (mvT F (inB t.f0 b k) t.f3[k]) = mxL F t.f0 b t.f3 (k + 1) ∧ t.f3[k] ∈ t.f3 ∧ xT X (inB t.f0 b k) t.f3[k] = true) := Lib.hid ⟨okL_succ _ _ _ _ hlt, mxL_set _ _ _ _ hlt, List.getElem_mem hlt, by have := xL_get X t.f0 b t.f3 0 HX2.out k hlt; rwa [Nat.zero_add] at this⟩
          generalize t.f3[k] = x at h0 h1 h2 h3 hl3 hF3 HD
          have HA : Hid (Rn w0 bT bO bW fT caps W P t (mvI F b t.f0 t.f2) (some ⟨g, 0, none⟩) cc (ok && mvB F b t.f0 t.f2 && okL F t.f0 b 0 (t.f3.take k)) (mxL F t.f0 b t.f3 k) (wr.alloc (.cells #[.int .i64 x.f0, .string x.f1, .int .i64 x.f2, .slice A3 x.f3.length c3] 25)) ∧ Kd.F k25 (wr.alloc (.cells #[.int .i64 x.f0, .string x.f1, .int .i64 x.f2, .slice A3 x.f3.length c3] 25)) (fun q => ((P q ∨ W.heap.size + 2 ≤ q) ∧ q ≠ g) ∧ q < wr.heap.size) A3 x.f3.length x.f3 ∧ (wr.alloc (.cells #[.int .i64 x.f0, .string x.f1, .int .i64 x.f2, .slice A3 x.f3.length c3] 25)).heap[wr.heap.size]? = some (.cells #[.int .i64 x.f0, .string x.f1, .int .i64 x.f2, .slice A3 x.f3.length c3] 25 (0, 0)) ∧ x.f3.length ≤ c3) :=
            Lib.hid ⟨HRk.out.below (yF (Below.refl _ _) _), Kd.F_alloc (Kd.F_bound hF3) _, blk_new _ _, hl3⟩
          have e0 : (wr.alloc (.cells #[.int .i64 x.f0, .string x.f1, .int .i64 x.f2, .slice A3 x.f3.length c3] 25)).cell? ⟨W.heap.size, 0, none⟩ = some (.int .i64 t.f0) := (yE HA.out.1.b.bx 0).trans rfl
          have hga : wr.heap.size ≠ g := by omega
          have hwr : W.heap.size + 1 < wr.heap.size := blk_lt HRk.out.b.rs
          clear HRk hl3 hF3
          go_upto_region 11 with fail
          clear h0 h1 h2 h3
          generalize wr.alloc (.cells #[.int .i64 x.f0, .string x.f1, .int .i64 x.f2, .slice A3 x.f3.length c3] 25) = wa at HA e0 ⊢
          go_cut [71] (fun s w1 => s = .bool (decide (t.f0 = 3) || (decide (t.f0 = 2) && decide (k = 1))) ∧ Hid (Below wa.heap.size wa w1))
          case first =>
            by_cases k3 : t.f0 = 3
            · have k3b : (t.f0 == 3) = true := beq_iff_eq.mpr k3
              have K3 := Lib.hid k3
              clear k3
              go_wp2_with fail
              go_meet
              case rel => exact ⟨by simp [K3.out], Lib.hid (Below.refl _ _)⟩
            · have k3b : (t.f0 == 3) = false := beq_eq_false_iff_ne.mpr k3
              have K3 := Lib.hid k3
              clear k3
              by_cases k2 : t.f0 = 2
              · have k2b : (t.f0 == 2) = true := beq_iff_eq.mpr k2
                have K2 := Lib.hid k2
                clear k2
                by_cases k1 : k = 1
                · have k1b : ((k : Int) == 1) = true := beq_iff_eq.mpr (by omega)
                  have K1 := Lib.hid k1
                  clear k1
                  go_wp2_with fail
                  go_meet
                  case rel => exact ⟨by simp [K1.out, K2.out, K3.out], Lib.hid (Below.refl _ _)⟩
                · have k1b : ((k : Int) == 1) = false := beq_eq_false_iff_ne.mpr (by omega)
                  have K1 := Lib.hid k1
                  clear k1
                  go_wp2_with fail
                  go_meet
                  case rel => exact ⟨by simp [K1.out, K2.out, K3.out], Lib.hid (Below.refl _ _)⟩
              · have k2b : (t.f0 == 2) = false := beq_eq_false_iff_ne.mpr k2
                have K2 := Lib.hid k2
                clear k2
                go_wp2_with fail
                go_meet
                case rel => exact ⟨by simp [K2.out, K3.out], Lib.hid (Below.refl _ _)⟩
          case rest =>
            obtain ⟨rfl, HBe⟩ := hcut
            clear e0
            go_upto_if 71 with fail
            go_cut [12] (fun s w1 => s = .int .i64 (inB t.f0 b k) ∧ Hid (Below wa.heap.size wa w1))
            case first =>
              by_cases hi : t.f0 = 3 ∨ (t.f0 = 2 ∧ k = 1)
              · have e1 : (decide (t.f0 = 3) || (decide (t.f0 = 2) && decide (k = 1))) = true := by simpa using hi
                have HI := Lib.hid hi
                rw [e1]
                clear hi e1
                go_wp2_with fail
                go_meet
                case rel => exact ⟨by simp [inB, HI.out], HBe⟩
              · have e1 : (decide (t.f0 = 3) || (decide (t.f0 = 2) && decide (k = 1))) = false := by simpa using hi
                have HI := Lib.hid hi
                rw [e1]
                clear hi e1
                go_wp2_with fail
                go_meet
                case rel => exact ⟨by simp only [inB, if_neg HI.out], HBe⟩
            case rest =>
              obtain ⟨rfl, HBc⟩ := hcut
              clear HBe
              have HC : Hid (Rn w0 bT bO bW fT caps W P t (mvI F b t.f0 t.f2) (some ⟨g, 0, none⟩) cc (ok && mvB F b t.f0 t.f2 && okL F t.f0 b 0 (t.f3.take k)) (mxL F t.f0 b t.f3 k) wc ∧ Kd.F k25 wc (fun q => ((P q ∨ W.heap.size + 2 ≤ q) ∧ q ≠ g) ∧ q < wr.heap.size) A3 x.f3.length x.f3 ∧ wc.heap[wr.heap.size]? = some (.cells #[.int .i64 x.f0, .string x.f1, .int .i64 x.f2, .slice A3 x.f3.length c3] 25 (0, 0)) ∧ x.f3.length ≤ c3) :=
                Lib.hid ⟨HA.out.1.below HBc.out, Kd.F_below HA.out.2.1 HBc.out, blk_below HA.out.2.2.1 HBc.out, HA.out.2.2.2⟩
              clear HA HBc
              have hO : bO < W.heap.size := blk_lt HM.out.kk
              have hTW : bT < W.heap.size ∧ bW < W.heap.size := ⟨blk_lt HM.out.tt, blk_lt HM.out.wk⟩
              have hgW : W.heap.size + 2 ≤ g := by
                have h1 := HC.out.1.n.1 g (by simp [Value.ownBlock])
                rcases h1 with h1 | h1
                · have := (HP.out g h1).1; omega
                · exact h1
              have hrO : wr.heap.size ≠ bO := by have := hwr; omega
              have HPx : Hid (∀ q, ((P q ∨ W.heap.size + 2 ≤ q) ∧ q ≠ g) ∧ q < wr.heap.size → q < wc.drew.heap.size ∧ q ≠ bO) := Lib.hid (fun q hq => ⟨Nat.lt_trans hq.2 (blk_lt HC.out.2.2.1), by rcases hq.1.1 with h | h; exact (HP.out q h).2; omega⟩)
              go_upto_region 13 with fail
              obtain ⟨s0, s1, s2, s3, s4, s5⟩ := HC.out.1.S HC.out.2.2.1
              go_region_held3 (fun W' => W'.cell? ⟨W.heap.size, 3, none⟩ = some (.slice (some ⟨g, 0, none⟩) t.f3.length cc) ∧ W'.cell? ⟨bW, 0, none⟩ = some (.func (.func 128) #[] #[.pointer (some ⟨bT, 0, none⟩), .pointer (some ⟨bO, 0, none⟩), .pointer (some ⟨bW, 0, none⟩)]) ∧ W'.cell? ⟨wr.heap.size, 0, none⟩ = some (.int .i64 x.f0) ∧ W'.cell? ⟨wr.heap.size, 1, none⟩ = some (.string x.f1) ∧ W'.cell? ⟨wr.heap.size, 2, none⟩ = some (.int .i64 x.f2) ∧ W'.cell? ⟨wr.heap.size, 3, none⟩ = some (.slice A3 x.f3.length c3)) (first | exact HC.out.1.S HC.out.2.2.1 | exact HR5.out.S HA5.out | exact HR6.out.S HA6.out)
                (first
                  | (go_at_call 128; go_loud (with_reducible refine (HIH.out x HD.out.2.2.1 (inB t.f0 b k) A3 c3 (fun q => ((P q ∨ W.heap.size + 2 ≤ q) ∧ q ≠ g) ∧ q < wr.heap.size) _ wc.drew (HC.out.1.b.mv.below (below_drew (Below.refl _ _))) (Kd.F_drew HC.out.2.1) HC.out.2.2.2 HPx.out HD.out.2.2.2).mono ?_); rintro e W5 ⟨v5, rfl, hn5, hm5, hk5⟩; obtain ⟨A5, c5, rfl⟩ := Kd.N_slice hn5; have HR5 := Lib.hid (HC.out.1.drew.kept hk5 hm5 HP.out hO); have HN5 := Lib.hid hn5; have HK5 := Lib.hid hk5
                     have HA5 := Lib.hid (blk_kept HC.out.2.2.1 hk5 hrO)
                     obtain ⟨q0, q1, q2, q3, ⟨r0, r1, r2, r3⟩, z0, z1, z2, z3⟩ := row4 HR5.out.n hlt
                     have HQ : Hid (∀ q, (((((P q ∨ W.heap.size + 2 ≤ q) ∧ q ≠ g) ∧ q < wr.heap.size) ∨ wc.drew.heap.size ≤ q) ∧ q < W5.heap.size) → (P q ∨ W.heap.size + 2 ≤ q) ∧ q ≠ g) := Lib.hid (fun q hq => by
                         rcases hq.1 with hq | hq
                         · exact hq.1
                         · have := blk_lt HC.out.2.2.1
                           have hq : wc.heap.size ≤ q := hq
                           exact ⟨.inr (by omega), by omega⟩)
                     have HR6 : Hid (Rn w0 bT bO bW fT caps W P t (mvI F b t.f0 t.f2) (some ⟨g, 0, none⟩) cc (ok && mvB F b t.f0 t.f2 && okL F t.f0 b 0 (t.f3.take (k + 1))) (mxL F t.f0 b t.f3 (k + 1)) (stT W5 g k x.f0 x.f1 (mvI F (inB t.f0 b k) x.f0 x.f2) (.slice A5 (mvL F x.f0 (inB t.f0 b k) 0 x.f3).length c5))) := Lib.hid (by
                       have h6 := HR5.out.grown (row_set HR5.out.n hlt ⟨x.f0, x.f1, mvI F (inB t.f0 b k) x.f0 x.f2, mvL F x.f0 (inB t.f0 b k) 0 x.f3⟩ (Kd.N_reads' HN5.out).2.1 (Kd.N_F (Kd.N_bound HN5.out)) (fun q hq => HQ.out q hq)) hgW hTW.1 hO hTW.2
                       rw [HD.out.1, ← Bool.and_assoc, ← HD.out.2.1, mvT_eq]
                       exact h6)
                     have HA6 : Hid ((stT W5 g k x.f0 x.f1 (mvI F (inB t.f0 b k) x.f0 x.f2) (.slice A5 (mvL F x.f0 (inB t.f0 b k) 0 x.f3).length c5)).heap[wr.heap.size]? = _) := Lib.hid (((row_set HR5.out.n hlt ⟨x.f0, x.f1, mvI F (inB t.f0 b k) x.f0 x.f2, mvL F x.f0 (inB t.f0 b k) 0 x.f3⟩ (Kd.N_reads' HN5.out).2.1 (Kd.N_F (Kd.N_bound HN5.out)) (fun q hq => HQ.out q hq)).2.block _ (blk_lt HA5.out) (fun e => hga (Option.some.inj e))).trans HA5.out)
                     clear hn5 hm5 hk5))
              clear HR5 HN5 HK5 HQ HA5 HA6 HC s0 s1 s2 s3 s4 s5 r0 r1 r2 r3 z0 z1 z2 z3
              go_wp2_with fail
              refine ⟨?_, ?measure⟩
              (repeat apply Exists.intro)
              refine ⟨?rel, rfl⟩
              case rel => exact ⟨k + 1, by omega, by go_num, HR6⟩
              case measure => simp [intOf]; omega
        · have hke : k = t.f3.length := by omega
          have HRf : Hid (Rn w0 bT bO bW fT caps W P t (mvI F b t.f0 t.f2) A1 cc (ok && okM F b t) (mvL F t.f0 b 0 t.f3) wr) := Lib.hid (by
            have := HRk.out
            rw [hke, List.take_length, mxL_all, Bool.and_assoc, ← okM_eq] at this
            exact this)
          clear HRk hke
          have b0 : wr.cell? ⟨W.heap.size, 0, none⟩ = some (.int .i64 t.f0) := (yE HRf.out.b.bx 0).trans rfl
          have b1 : wr.cell? ⟨W.heap.size, 1, none⟩ = some (.string t.f1) := (yE HRf.out.b.bx 1).trans rfl
          have b2 : wr.cell? ⟨W.heap.size, 2, none⟩ = some (.int .i64 (mvI F b t.f0 t.f2)) := (yE HRf.out.b.bx 2).trans rfl
          have b3 : wr.cell? ⟨W.heap.size, 3, none⟩ = some (.slice A1 t.f3.length cc) := (yE HRf.out.b.bx 3).trans rfl
          have r0 : wr.cell? ⟨W.heap.size + 1, 0, none⟩ = some (.int .i64 0) := (yE HRf.out.b.rs 0).trans rfl
          have r1 : wr.cell? ⟨W.heap.size + 1, 1, none⟩ = some (.string ⟨#[]⟩) := (yE HRf.out.b.rs 1).trans rfl
          have r2 : wr.cell? ⟨W.heap.size + 1, 2, none⟩ = some (.int .i64 0) := (yE HRf.out.b.rs 2).trans rfl
          have r3 : wr.cell? ⟨W.heap.size + 1, 3, none⟩ = some (.slice none 0 0) := (yE HRf.out.b.rs 3).trans rfl
          have z0 : wr.frozen? ⟨W.heap.size + 1, 0, none⟩ = false := yD HRf.out.b.rs _
          have z1 : wr.frozen? ⟨W.heap.size + 1, 1, none⟩ = false := yD HRf.out.b.rs _
          have z2 : wr.frozen? ⟨W.heap.size + 1, 2, none⟩ = false := yD HRf.out.b.rs _
          have z3 : wr.frozen? ⟨W.heap.size + 1, 3, none⟩ = false := yD HRf.out.b.rs _
          go_wp2_with fail
          have HE := Lib.hid (blk4 t.f0 t.f1 (mvI F b t.f0 t.f2) (.slice A1 t.f3.length cc) HRf.out.b.rs)
          have HZ := Lib.hid (HRf.out.fin HP.out (blk_lt HM.out.tt) (blk_lt HM.out.kk) (blk_lt HM.out.wk) (.int .i64 t.f0) (.string t.f1) (.int .i64 (mvI F b t.f0 t.f2)) (.slice A1 t.f3.length cc))
          refine bodyPost_ret (results_cell_row rfl _ _ (W.heap.size + 1) 25 #[.int .i64 t.f0, .string t.f1, .int .i64 (mvI F b t.f0 t.f2), .slice A1 t.f3.length cc] (0, 0) _ rfl HE.out Tryd.underlying25 rfl (by kernel_rfl)) rfl ?_
          exact ⟨_, rfl, HZ.out⟩
theorem mv_all (w0 : World) (bT bO bW : Nat) (fT : FuncId) (caps : Array Value) (F : Int → Int × Bool)
    (hfT : ∀ (a : Array Value) (W : World), Sem.run Tryd.prog (callFunc fT a) W = .ok (.enter fT a) W)
    (X : Int → Bool) (hto : ∀ (W : World) (x : Int), X x = true → Below w0.heap.size w0 W → Calls Tryd.prog fT (#[.int .i64 x] ++ caps) W fun e W' => e = .returned (.tuple #[.int .i64 (F x).1, .bool (F x).2]) ∧ Below W.heap.size W W') :
    ∀ (n : Nat) (t : Tm), nT t ≤ n → nT t ≤ 1000000 → ∀ (b : Int) (A : Option Addr) (c : Nat) (P : Nat → Prop) (ok : Bool) (W : World), Mv w0 bT bO bW fT caps ok W → Kd.F k25 W P A t.f3.length t.f3 → t.f3.length ≤ c → (∀ k, P k → k < W.heap.size ∧ k ≠ bO) → xT X b t = true →
      Calls Tryd.prog 128 #[.agg #[.int .i64 t.f0, .string t.f1, .int .i64 t.f2, .slice A t.f3.length c], .int .i64 b, .pointer (some ⟨bT, 0, none⟩), .pointer (some ⟨bO, 0, none⟩), .pointer (some ⟨bW, 0, none⟩)] W fun e W' =>
        ∃ v, e = .returned (.agg #[.int .i64 t.f0, .string t.f1, .int .i64 (mvI F b t.f0 t.f2), v]) ∧ Kd.N k25 25 W' W.heap.size (fun k => P k ∨ W.heap.size ≤ k) v (mvL F t.f0 b 0 t.f3) ∧ Mv w0 bT bO bW fT caps (ok && okM F b t) W' ∧ Kept W W' (fun k => k = bO) := by
  intro n
  induction n with
  | zero => intro t h; rw [nT_eq] at h; omega
  | succ n ih =>
    intro t h hm b A c P ok W hM hF hc hP hx
    have h1 := nT_eq t
    refine mv_step w0 bT bO bW fT caps F hfT X hto t (by have := nTs_len t.f3; omega) (fun u hu => ?_) b A c P ok W hM hF hc hP hx
    have h2 := nTs_mem hu
    exact ih u (by omega) (by omega)
end Go.Proofs.YtpkkoiljombooaaDoor.G
