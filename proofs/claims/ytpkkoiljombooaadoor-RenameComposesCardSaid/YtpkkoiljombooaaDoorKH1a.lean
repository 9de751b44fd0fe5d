import Derived.Test.YtpkkoiljombooaaDoorKG0
import Derived.WalkKit
import Derived.KernelRfl
import Derived.WalkSpells
import Derived.Lib.Hide
import Derived.Outline
import Derived.Test.YtpkkoiljombooaaDoorKWMore
import Derived.Shelf.Small.Strs
import Derived.Shelf.Strings.Search1
import Derived.Test.YtpkkoiljombooaaDoorProg
set_option linter.unusedVariables false
namespace Go.Proofs.YtpkkoiljombooaaDoor.G
open Go.RowKit Go.Proofs.YtpkkoiljombooaaDoorW.PrintWords Go.Proofs.YtpkkoiljombooaaDoorW.PrintLast
abbrev Tm := S25
abbrev tv (x : Tm) (A : Option Addr) (c : Nat) : Value := .agg #[.int .i64 x.f0, .string x.f1, .int .i64 x.f2, .slice A x.f3.length c]
abbrev lies (w : World) (A : Option Addr) (l : List Tm) : Prop := Kd.C k25 w A l.length l
theorem below_trans {a b c : World} (h : Below a.heap.size a b) (k : Below b.heap.size b c) : Below a.heap.size a c := h.trans (k.mono h.size)
theorem drawn_trans {a b c : World} (h : Drawn0 a b) (k : Drawn0 b c) : Drawn0 a c := by
 obtain ⟨n, rfl⟩ := k.out
 exact h.step n
theorem bcell {W w1 : World} (hb : Below W.heap.size W w1) : (∀ b o, b < W.heap.size → w1.cell? ⟨b, o, none⟩ = W.cell? ⟨b, o, none⟩) ∧ (∀ b o, b < W.heap.size → w1.frozen? ⟨b, o, none⟩ = W.frozen? ⟨b, o, none⟩) :=
 ⟨fun b o h => hb.cell (p := ⟨b, o, none⟩) h, fun b o h => hb.frozen (p := ⟨b, o, none⟩) h⟩
theorem tm_eta (x : Tm) : (⟨x.f0, x.f1, x.f2, x.f3⟩ : Tm) = x := by cases x; rfl
theorem elem_at {w : World} {A : Option Addr} {l : List Tm} (h : lies w A l) (k : Nat) (hk : k < l.length) :
  ∃ (x : Tm) (ad : Addr) (A3 : Option Addr) (c3 : Nat), l[k]? = some x ∧ A = some ad ∧ w.cell? (ad.add (k * 4)) = some (.int .i64 x.f0) ∧ w.cell? ⟨(ad.add (k * 4)).block, (ad.add (k * 4)).off + 1, none⟩ = some (.string x.f1) ∧
   w.cell? ⟨(ad.add (k * 4)).block, (ad.add (k * 4)).off + 2, none⟩ = some (.int .i64 x.f2) ∧ w.cell? ⟨(ad.add (k * 4)).block, (ad.add (k * 4)).off + 3, none⟩ = some (.slice A3 x.f3.length c3) ∧ x.f3.length ≤ c3 ∧ lies w A3 x.f3 := by
 obtain ⟨ad, A3, c3, ea, h0, h1, h2, h3, hl, hg⟩ := at_T25 h (k : Int) (by omega) (by omega)
 rw [Int.toNat_natCast] at h0 h1 h2 h3
 refine ⟨rd_T25 l k, ad, A3, c3, ?_, ea, h0, h1, h2, h3, hl, hg⟩
 simp [rd_T25, hk]
theorem mem_rd {xs : List Tm} {k : Nat} (h : k < xs.length) : rd_T25 xs (k : Int) = xs[k] := by
 simp [rd_T25, h]
end Go.Proofs.YtpkkoiljombooaaDoor.G
set_option linter.unusedVariables false
set_option linter.unusedSimpArgs false
namespace Go.Proofs.YtpkkoiljombooaaDoor.G
open Go.RowKit Go.Proofs.YtpkkoiljombooaaDoorW.PrintWords Go.Proofs.YtpkkoiljombooaaDoorW.PrintLast Go.Proofs.YtpkkoiljombooaaDoorW.PrintMore
theorem N_fresh0 {α : Type} (d : Kd α) (e : Nat) (W : World) (base : Nat) (ok : Nat → Prop) (hb : base ≤ W.heap.size) (hok : ok W.heap.size) : Kd.N d e (W.alloc (.cells #[] e)) base ok (.slice (some ⟨W.heap.size, 0, none⟩) 0 0) ([] : List α) := by
 refine Kd.R_N ⟨fun k hk => ?_, [], ?_, Reps.none _ _⟩
 ·have : W.heap.size = k := by simpa [Value.ownBlock] using hk
  exact this ▸ hok
 ·have h2 := World.ownsRow_lit (base := base) (e := e) (size := d.sz) W #[] 0 hb (by simp [maxLen]) (by simp)
  simpa using h2
set_option maxHeartbeats 2000000 in
set_option maxRecDepth 100000 in
theorem clone_any (A : Option Addr) (c : Nat) (l : List Tm) (P : Nat → Prop) (W : World) (hF : Kd.F k25 W P A l.length l) (hP : ∀ k, P k → k < W.heap.size) (hl : l.length ≤ 1000000) :
  Calls Tryd.prog 129 #[.slice A l.length c] W fun e W' => ∃ v, e = .returned v ∧ Kd.N k25 25 W' W.heap.size (fun k => P k ∨ W.heap.size ≤ k) v l ∧ Below W.heap.size W W' := by
 have qT : ∀ (w : World) (a : Option Addr) (n c : Nat), (binOp .eql 23 (.slice a n c) (.slice none 0 0)).run Tryd.prog w = .ok (.bool a.isNone) w := fun w a n c => Lib.run_eql_slice_nil w _ _ a n c 0 0 Tryd.underlying23
 rcases A with _ | ad
 ·have h0 : l = [] := by
   have h := (Kd.F_now hF).2.2
   cases l with
   | nil => rfl
   | cons a r => obtain ⟨ad, e, _⟩ := h (by simp); cases e
  subst h0
  go_enter Tryd.func129, Tryd.ntmps129
  go_wp2_with fail
  refine bodyPost_ret (v := .slice none 0 0) ?_ rfl ⟨_, rfl, Kd.N_nil _ _ _ _ _, Below.refl _ _⟩
  simp [results, Tryd.f129, go_sem]
 ·have HF := Lib.hid hF
  have HP := Lib.hid hP
  clear hF hP
  go_enter Tryd.func129, Tryd.ntmps129
  go_wp2_with (at_builtin; refine Kd.N_append_rows k25 (w0 := W) W.heap.size (by rfl) (.tmp 5) (.tmp 6) 23 25 (.agg #[(.int .i64 0), (.string ⟨#[]⟩), (.int .i64 0), (.slice none 0 0)]) 56 rfl Tryd.underlying23 (by rfl) rfl (by decide) (by omega) (.slice (some ⟨W.heap.size, 0, none⟩) 0 0) ([] : List Tm) l _ _ _ (fun k => P k ∨ W.heap.size ≤ k) P rfl rfl ?aO ?aR ?aP ?aF ?aB ?aS ?aL ?_; (case aR => exact Kd.F_alloc HF.out _); (case aO => exact N_fresh0 _ _ _ _ _ (Nat.le_refl _) (.inr (Nat.le_refl _))); (case aP => exact fun k hk => ⟨.inl hk, by simp [Value.ownBlock]; have := HP.out k hk; omega⟩); (case aF => exact fun k hk => .inr (Nat.le_trans (below_size (yF (Below.refl W.heap.size W) (.cells #[] 25))) hk)); (case aB => exact yF (Below.refl _ _) _); (case aS => exact below_size (yF (Below.refl W.heap.size W) (.cells #[] 25))); (case aL => simp; omega); intro v1 w1 hN hB _ _; try simp only [List.nil_append] at hN; have HNB := Lib.hid (And.intro hN hB); clear hN hB)
  refine bodyPost_ret (v := v1) ?_ rfl ⟨_, rfl, HNB.out.1, HNB.out.2⟩
  simp [results, Tryd.f129, go_sem]
end Go.Proofs.YtpkkoiljombooaaDoor.G
namespace Go.Proofs.YtpkkoiljombooaaDoor.Shelf
open Go.Shelf
def ren : Go.Shelf.Ren := ⟨fun | 137 => 152 | 217 => 153 | 266 => 154 | n => n, fun | 9 => 9 | 5 => 5 | 3 => 3 | n => n, fun | n => n⟩
theorem lays : Go.Proofs.Lays.n137 Tryd.prog ren := {
 mixed := by kernel_rfl
 f137 := Tryd.func152.trans (congrArg some (by kernel_rfl))
 f217 := Tryd.func153.trans (congrArg some (by kernel_rfl))
 f266 := Tryd.func154.trans (congrArg some (by kernel_rfl))
 t3 := Tryd.underlying3
 a3 := Tryd.isAgg3
 z3 := Tryd.sizeOf3
 v3 := Tryd.zeroValue3
 t5 := Tryd.underlying5
 a5 := Tryd.isAgg5
 z5 := Tryd.sizeOf5
 v5 := Tryd.zeroValue5
 t9 := Tryd.underlying9
 a9 := Tryd.isAgg9
 z9 := Tryd.sizeOf9
 v9 := Tryd.zeroValue9 }
open Go.RowKit in
theorem indexByte (s : ByteArray) (c : Int) (w : World) :
  Calls Tryd.prog 152 #[.string s, .int .u8 c] w fun e w' => e = .returned (.int .i64 (Lib.indexByte s.data.toList c.toNat.toUInt8)) ∧ w' = w := Any.strings_IndexByte lays s c w
end Go.Proofs.YtpkkoiljombooaaDoor.Shelf
set_option linter.unusedVariables false
namespace Go.Proofs.YtpkkoiljombooaaDoor.G
open Go.RowKit Go.Proofs.YtpkkoiljombooaaDoorW.PrintWords Go.Proofs.YtpkkoiljombooaaDoorW.PrintLast
def strings_IndexByte.f (a0 : ByteArray) (a1 : Int) : Option Int := some (Lib.indexByte a0.data.toList a1.toNat.toUInt8)
theorem strings_IndexByte.calls (a0 : ByteArray) (a1 : Int) (r : Int) (w : World) (h : strings_IndexByte.f a0 a1 = some r) :
  Calls Tryd.prog 152 #[.string a0, .int .u8 a1] w fun e w' => e = .returned (.int .i64 r) ∧ Drawn0 w w' :=
 (Shelf.indexByte a0 a1 w).mono fun _ _ ⟨he, hw⟩ => ⟨by rw [he]; unfold strings_IndexByte.f at h; cases h; rfl, by subst hw; exact Drawn0.refl _⟩
end Go.Proofs.YtpkkoiljombooaaDoor.G
