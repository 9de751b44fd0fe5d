import Derived.Test.YtpkkoiljombooaaDoorKG0
import Derived.Test.YtpkkoiljombooaaDoorKG1
import Derived.Test.YtpkkoiljombooaaDoorKG13
import Derived.Test.YtpkkoiljombooaaDoorKTl
import Derived.Test.YtpkkoiljombooaaDoorKPi
import Derived.Test.YtpkkoiljombooaaDoorKMr
import Derived.Test.YtpkkoiljombooaaDoorKBw
set_option linter.unusedVariables false
set_option linter.unusedSimpArgs false
namespace Go.Proofs.YtpkkoiljombooaaDoor.G
open Go.RowKit Go.Proofs.YtpkkoiljombooaaDoorW.PrintWords Go.Proofs.YtpkkoiljombooaaDoorW.PrintLast Go.Proofs.YtpkkoiljombooaaDoorW.PrintMore
abbrev tgv (x : Tm) (A : Option Addr) (c : Nat) : Value := .agg #[.int .i64 x.f0, .string x.f1, .int .i64 x.f2, .slice A x.f3.length c]
def Gave (W : World) (y : Tm) (v : Value) (W' : World) : Prop := ∃ A c, v = tgv y A c ∧ (lies W' A y.f3 ∧ y.f3.length ≤ c) ∧ Below W.heap.size W W'
theorem gave_of {W W' : World} {base : Nat} {ok : Nat → Prop} {v : Value} {y : Tm} {i0 : Int} (hi : i0 = y.f2) {L : List Tm} (hL : L = y.f3) {k0 : Int} (hk : k0 = y.f0) {n0 : ByteArray} (hn : n0 = y.f1) (h : Kd.N k25 25 W' base ok v L) (hb : Below W.heap.size W W') :
  Gave W y (.agg #[.int .i64 k0, .string n0, .int .i64 i0, v]) W' := by
 subst hi hL hk hn
 obtain ⟨A, c, rfl⟩ := Kd.N_slice h
 exact ⟨A, c, rfl, ⟨(Kd.N_reads' h).2.2, (Kd.N_reads' h).2.1⟩, hb⟩
structure TBx (n : Nat) (t : Tm) (A : Option Addr) (c : Nat) (W : World) : Prop where
 b : W.heap[n]? = some (.cells #[.int .i64 t.f0, .string t.f1, .int .i64 t.f2, .slice A t.f3.length c] 25 (0, 0))
 l : lies W A t.f3
 c : t.f3.length ≤ c
theorem TBx.below {n t A c} {W W' : World} (h : TBx n t A c W) (hb : Below W.heap.size W W') : TBx n t A c W' := ⟨blk_below h.b hb, Kd.C_below h.l hb, h.c⟩
theorem TBx.alloc {n t A c} {W : World} (h : TBx n t A c W) (o : Obj) : TBx n t A c (W.alloc o) := ⟨yC h.b o, Kd.C_alloc h.l o, h.c⟩
theorem TBx.new {t A c} {W : World} (hl : lies W A t.f3) (hc : t.f3.length ≤ c) : TBx W.heap.size t A c (W.alloc (.cells #[.int .i64 t.f0, .string t.f1, .int .i64 t.f2, .slice A t.f3.length c] 25)) := ⟨blk_new _ _, Kd.C_alloc hl _, hc⟩
theorem TBx.cells {n t A c} {W : World} (h : TBx n t A c W) : W.cell? ⟨n, 0, none⟩ = some (.int .i64 t.f0) ∧ W.cell? ⟨n, 1, none⟩ = some (.string t.f1) ∧ W.cell? ⟨n, 2, none⟩ = some (.int .i64 t.f2) ∧ W.cell? ⟨n, 3, none⟩ = some (.slice A t.f3.length c) ∧ n < W.heap.size :=
 ⟨(yE h.b 0).trans rfl, (yE h.b 1).trans rfl, (yE h.b 2).trans rfl, (yE h.b 3).trans rfl, blk_lt h.b⟩
structure TFx (n : Nat) (t : Tm) (A : Option Addr) (c : Nat) (W : World) : Prop where
 b : W.heap[n]? = some (.cells #[.int .i64 t.f0, .string t.f1, .int .i64 t.f2, .slice A t.f3.length c] 25 (0, 0))
 f : Kd.F k25 W (fun k => k < n) A t.f3.length t.f3
 c : t.f3.length ≤ c
theorem TFx.below {n t A c} {W W' : World} (h : TFx n t A c W) (hb : Below W.heap.size W W') : TFx n t A c W' := ⟨blk_below h.b hb, Kd.F_below h.f hb, h.c⟩
theorem TFx.alloc {n t A c} {W : World} (h : TFx n t A c W) (o : Obj) : TFx n t A c (W.alloc o) := ⟨yC h.b o, Kd.F_alloc h.f o, h.c⟩
theorem TFx.drew {n t A c} {W : World} (h : TFx n t A c W) : TFx n t A c W.drew := ⟨yB h.b, Kd.F_drew h.f, h.c⟩
theorem TFx.set {n t A c} {W : World} (h : TFx n t A c W) {p : Addr} (hp : n < p.block) (u : Value) : TFx n t A c (W.setCell p u) := ⟨blk_far h.b (by omega) u, Kd.F_far h.f (fun k hk => by omega) u, h.c⟩
theorem TFx.new {t A c} {W : World} (hl : lies W A t.f3) (hc : t.f3.length ≤ c) : TFx W.heap.size t A c (W.alloc (.cells #[.int .i64 t.f0, .string t.f1, .int .i64 t.f2, .slice A t.f3.length c] 25)) := ⟨blk_new _ _, Kd.F_alloc (Kd.C_F k25_heap hl) _, hc⟩
theorem TFx.tb {n t A c} {W : World} (h : TFx n t A c W) : TBx n t A c W := ⟨h.b, Kd.F_now h.f, h.c⟩
def IBx (g : Nat) (p : List Int) (W : World) : Prop := W.heap[g]? = some (.cells (p.map (Value.int .i64)).toArray 3 (0, 0))
theorem IBx.below {g p} {W W' : World} (h : IBx g p W) (hb : Below W.heap.size W W') : IBx g p W' := blk_below h hb
theorem IBx.alloc {g p} {W : World} (h : IBx g p W) (o : Obj) : IBx g p (W.alloc o) := yC h o
theorem IBx.lt {g p} {W : World} (h : IBx g p W) : g < W.heap.size := blk_lt h
theorem IBx.drew {g p} {W : World} (h : IBx g p W) : IBx g p W.drew := yB h
theorem IBx.cell {g p} {W : World} (h : IBx g p W) {i : Nat} (hi : i < p.length) : W.cell? ⟨g, i, none⟩ = some (.int .i64 p[i]) := (yE h i).trans (by simp [hi])
theorem IBx.frozen {g p} {W : World} (h : IBx g p W) (i : Nat) : W.frozen? ⟨g, i, none⟩ = false := yD h i
theorem IBx.set {g p} {W : World} (h : IBx g p W) (i : Nat) (x : Int) : IBx g (p.set i x) (W.setCell ⟨g, i, none⟩ (.int .i64 x)) := (blk_set h i _).trans (by simp [List.map_set])
theorem IBx.C {g p} {W : World} (h : IBx g p W) (hl : p.length ≤ 1000000) : Kd.C (Kd.int .i64) W (some ⟨g, 0, none⟩) p.length p := ints_C h (by omega)
section
variable {t y : Tm} {A : Option Addr} {c : Nat} {W : World}
theorem mvT_f (F : Int → Int × Bool) (b : Int) (x : Tm) : (mvT F b x).f0 = x.f0 ∧ (mvT F b x).f1 = x.f1 ∧ (mvT F b x).f2 = mvI F b x.f0 x.f2 ∧ (mvT F b x).f3 = mvL F x.f0 b 0 x.f3 := by
 rw [mvT_eq]; exact ⟨rfl, rfl, rfl, rfl⟩
theorem moved_at {gd : Prop} {F : Int → Int × Bool} {P : Nat → Prop} {e : Ending} {W' : World} (hg : gd) (ho : okM F 0 t = true) (hy : mvT F 0 t = y) (h : MovedEnds gd F t P W e W') : ∃ v, e = .returned (.tuple #[v, .bool true]) ∧ Gave W y v W' := by
 obtain ⟨hb, h⟩ := h
 obtain ⟨e0, e1, e2, e3⟩ := mvT_f F 0 t
 rcases h with ⟨_, v, rfl, hN⟩ | ⟨h, _⟩
 ·exact ⟨_, rfl, gave_of (by rw [← hy, e2]) (by rw [← hy, e3]) (by rw [← hy, e0]) (by rw [← hy, e1]) hN hb⟩
 ·exact absurd ⟨hg, ho⟩ h
theorem rename_at (to_ : List Int) (At : Option Addr) (ct : Nat) {m : Nat} (hm : to_.length = m) (hw : wfE t = 0) (ho : okM (rnF to_) 0 t = true) (hy : mvT (rnF to_) 0 t = y) (hT : Kd.C (Kd.int .i64) W At to_.length to_) (hl : lies W A t.f3) (hc : t.f3.length ≤ c) :
  Calls Tryd.prog 68 #[tgv t A c, .slice At m ct] W fun e W' => ∃ v, e = .returned (.tuple #[v, .bool true]) ∧ Gave W y v W' := by
 have hn := (wf_dT hw).2
 obtain ⟨k, hk⟩ := (wf_ev (t := t) (by unfold okN; omega)).rounds
 subst hm
 refine (rename_calls to_ At ct t (by omega) A c (fun k => k < W.heap.size) W k hk (Kd.C_F k25_heap hl) hc (fun _ h => h) hT (fun hw => wf_ge hw)).mono ?_
 exact fun e W' h => moved_at hw ho hy h
theorem rsame_at {x : Tm} {B : Option Addr} {d : Nat} {b : Bool} (ho : okN x) (hb : sameT x y = b) (hl : lies W A x.f3) (hc : x.f3.length ≤ c) (hl' : lies W B y.f3) (hc' : y.f3.length ≤ d) :
  Calls Tryd.prog 44 #[tgv x A c, tgv y B d] W fun e W' => e = .returned (.bool b) ∧ Below W.heap.size W W' := by
 obtain ⟨k, hk⟩ := (rsame_ev _ x y (Nat.le_refl _) ho).rounds
 subst hb
 exact r5_Same.calls k x.f0 x.f1 x.f2 A c x.f3 y.f0 y.f1 y.f2 B d y.f3 _ W hl hc hl' hc' hk
theorem any_at {k : Nat} {A0 : Option Addr} {c0 : Nat} {l0 : List Int} {a1 a2 a3 : Int} {t : Tm} (w : World) (n : Nat) (hn : w.heap.size = n) (hr0 : Kd.C (Kd.int .i64) w A0 l0.length l0) (hc0 : l0.length ≤ c0) (h : fm_AnyL.f k l0 a1 a2 a3 = some (t.f0, t.f1, t.f2, t.f3)) (hN : NamesLaid w) :
  Calls Tryd.prog 72 #[.pointer (some ⟨n, 0, none⟩), .int .i64 a1, .int .i64 a2, .int .i64 a3] (w.alloc (.cells #[.slice A0 l0.length c0, .int .i64 0] 46)) fun e w' => ∃ v, e = .returned v ∧ Gave w t v w' := by
 subst hn
 refine (fm_AnyL.calls k A0 c0 l0 a1 a2 a3 t.f0 t.f1 t.f2 t.f3 w hr0 hc0 h hN).mono ?_
 rintro e W1 ⟨v3, rfl, hn3, hB⟩
 obtain ⟨At, ct, rfl⟩ := Kd.N_slice hn3
 exact ⟨_, rfl, At, ct, rfl, ⟨(Kd.N_reads' hn3).2.2, (Kd.N_reads' hn3).2.1⟩, hB⟩
theorem cut_at {x n r : Int} (h : fm_Cut.f x n = some r) (W : World) : Calls Tryd.prog 18 #[.int .i64 x, .int .i64 n] W fun e W' => e = .returned (.int .i64 r) ∧ Below W.heap.size W W' := by
 refine (fm_Cut.calls x n r W h).mono ?_
 rintro e W' ⟨rfl, ⟨nd, rfl⟩⟩
 exact ⟨rfl, yG (Below.refl _ _) nd⟩
end
end Go.Proofs.YtpkkoiljombooaaDoor.G
