import Derived.Test.YtpkkoiljombooaaDoorKG0
import Derived.Test.YtpkkoiljombooaaDoorKG2
import Derived.Test.YtpkkoiljombooaaDoorKG13
import Derived.Test.YtpkkoiljombooaaDoorKAw
import Derived.Test.YtpkkoiljombooaaDoorKH5
import Derived.Test.YtpkkoiljombooaaDoorKPe
import Derived.Test.YtpkkoiljombooaaDoorKPs
import Derived.Test.YtpkkoiljombooaaDoorKTl
import Derived.WalkKit
import Derived.KernelRfl
import Derived.Deep.RegionHeld3
import Derived.IntWalk
import Derived.Test.YtpkkoiljombooaaDoorKWMore
set_option linter.unusedVariables false
set_option linter.unusedSimpArgs false
namespace Go.Proofs.YtpkkoiljombooaaDoor.G
open Go.RowKit Go.Proofs.YtpkkoiljombooaaDoorW.PrintWords Go.Proofs.YtpkkoiljombooaaDoorW.PrintLast Go.Proofs.YtpkkoiljombooaaDoorW.PrintMore
section
variable {x y : Tm} {A B : Option Addr} {c d : Nat} {W : World}
theorem same_at (ho : okN x) (hl : lies W A x.f3) (hc : x.f3.length ≤ c) (hl' : lies W B y.f3) (hc' : y.f3.length ≤ d) :
  Calls Tryd.prog 43 #[.agg #[.int .i64 x.f0, .string x.f1, .int .i64 x.f2, .slice A x.f3.length c], .agg #[.int .i64 y.f0, .string y.f1, .int .i64 y.f2, .slice B y.f3.length d]] W fun e W' => e = .returned (.bool (sameT x y)) ∧ Below W.heap.size W W' := by
 refine term_Same.calls x.f0 x.f1 x.f2 A c x.f3 y.f0 y.f1 y.f2 B d y.f3 _ W hl hc hl' hc' ?_
 unfold term_Same.f
 rw [tm_eta, tm_eta, if_pos (okN_fit ho)]
theorem ref_at (ho : okN x) (hl : lies W A x.f3) (hc : x.f3.length ≤ c) (hl' : lies W B y.f3) (hc' : y.f3.length ≤ d) :
  Calls Tryd.prog 44 #[.agg #[.int .i64 x.f0, .string x.f1, .int .i64 x.f2, .slice A x.f3.length c], .agg #[.int .i64 y.f0, .string y.f1, .int .i64 y.f2, .slice B y.f3.length d]] W fun e W' => e = .returned (.bool (sameT x y)) ∧ Below W.heap.size W W' := by
 obtain ⟨k, hk⟩ := (rsame_ev _ x y (Nat.le_refl _) ho).rounds
 exact r5_Same.calls k x.f0 x.f1 x.f2 A c x.f3 y.f0 y.f1 y.f2 B d y.f3 _ W hl hc hl' hc' hk
end
structure SameOk (a b u : Tm) (s : Bool) : Prop where
 oa : okN a
 ob : okN b
 ou : okN u
 ab : sameT a b = s
 ba : sameT b a = s
 aa : sameT a a = true
 au : sameT a u = true
 ub : sameT u b = s
structure Ts (w : World) (n m : Nat) (a b u : Tm) (A B U : Option Addr) (c d e : Nat) (W : World) : Prop where
 ba : W.heap[n]? = some (.cells #[.int .i64 a.f0, .string a.f1, .int .i64 a.f2, .slice A a.f3.length c] 25 (0, 0))
 bb : W.heap[n + 1]? = some (.cells #[.int .i64 b.f0, .string b.f1, .int .i64 b.f2, .slice B b.f3.length d] 25 (0, 0))
 bu : W.heap[m]? = some (.cells #[.int .i64 u.f0, .string u.f1, .int .i64 u.f2, .slice U u.f3.length e] 25 (0, 0))
 la : lies W A a.f3
 lb : lies W B b.f3
 lu : lies W U u.f3
 ca : a.f3.length ≤ c
 cb : b.f3.length ≤ d
 cu : u.f3.length ≤ e
 be : Below w.heap.size w W
section
variable {a b u : Tm} {A B U : Option Addr} {c d e n m : Nat} {w W : World} {s : Bool}
theorem Ts.below {W' : World} (h : Ts w n m a b u A B U c d e W) (hb : Below W.heap.size W W') : Ts w n m a b u A B U c d e W' :=
 ⟨(hb.block _ (blk_lt h.ba)).trans h.ba, (hb.block _ (blk_lt h.bb)).trans h.bb, (hb.block _ (blk_lt h.bu)).trans h.bu, Kd.C_below h.la hb, Kd.C_below h.lb hb, Kd.C_below h.lu hb, h.ca, h.cb, h.cu, below_trans h.be hb⟩
abbrev TsS (w : World) (n m : Nat) (a b u : Tm) (A B U : Option Addr) (c d e : Nat) (W' : World) : Prop :=
 W'.cell? ⟨n, 0, none⟩ = some (.int .i64 a.f0) ∧ W'.cell? ⟨n, 1, none⟩ = some (.string a.f1) ∧ W'.cell? ⟨n, 2, none⟩ = some (.int .i64 a.f2) ∧ W'.cell? ⟨n, 3, none⟩ = some (.slice A a.f3.length c) ∧ W'.cell? ⟨n + 1, 0, none⟩ = some (.int .i64 b.f0) ∧ W'.cell? ⟨n + 1, 1, none⟩ = some (.string b.f1) ∧ W'.cell? ⟨n + 1, 2, none⟩ = some (.int .i64 b.f2) ∧ W'.cell? ⟨n + 1, 3, none⟩ = some (.slice B b.f3.length d) ∧ W'.cell? ⟨m, 0, none⟩ = some (.int .i64 u.f0) ∧ W'.cell? ⟨m, 1, none⟩ = some (.string u.f1) ∧ W'.cell? ⟨m, 2, none⟩ = some (.int .i64 u.f2) ∧ W'.cell? ⟨m, 3, none⟩ = some (.slice U u.f3.length e) ∧ Hid (Ts w n m a b u A B U c d e W')
theorem Ts.S (h : Ts w n m a b u A B U c d e W) : TsS w n m a b u A B U c d e W :=
 ⟨(yE h.ba 0).trans rfl, (yE h.ba 1).trans rfl, (yE h.ba 2).trans rfl, (yE h.ba 3).trans rfl, (yE h.bb 0).trans rfl, (yE h.bb 1).trans rfl, (yE h.bb 2).trans rfl, (yE h.bb 3).trans rfl, (yE h.bu 0).trans rfl, (yE h.bu 1).trans rfl, (yE h.bu 2).trans rfl, (yE h.bu 3).trans rfl, Lib.hid h⟩
theorem Ts.mk' {W1 W2 W3 : World} (hB1 : Below w.heap.size w W1) (hB2 : Below W1.heap.size W1 W2)
  (hB3 : Below ((W2.alloc (.cells #[.int .i64 a.f0, .string a.f1, .int .i64 a.f2, .slice A a.f3.length c] 25)).alloc (.cells #[.int .i64 b.f0, .string b.f1, .int .i64 b.f2, .slice B b.f3.length d] 25)).heap.size ((W2.alloc (.cells #[.int .i64 a.f0, .string a.f1, .int .i64 a.f2, .slice A a.f3.length c] 25)).alloc (.cells #[.int .i64 b.f0, .string b.f1, .int .i64 b.f2, .slice B b.f3.length d] 25)) W3)
  (ca : a.f3.length ≤ c) (la : lies W1 A a.f3) (cb : b.f3.length ≤ d) (lb : lies W2 B b.f3) (cu : u.f3.length ≤ e) (lu : lies W3 U u.f3) :
  Ts w W2.heap.size W3.heap.size a b u A B U c d e (W3.alloc (.cells #[.int .i64 u.f0, .string u.f1, .int .i64 u.f2, .slice U u.f3.length e] 25)) := by
 have hBw : Below w.heap.size w W2 := below_trans hB1 hB2
 refine ⟨?_, ?_, World.alloc_heap_new _ _, Kd.C_alloc (Kd.C_below (Kd.C_alloc (Kd.C_alloc (Kd.C_below la hB2) _) _) hB3) _, Kd.C_alloc (Kd.C_below (Kd.C_alloc (Kd.C_alloc lb _) _) hB3) _, Kd.C_alloc lu _, ca, cb, cu, yF (below_trans (yF (yF hBw _) _) hB3) _⟩
 ·have h1 := hB3.block W2.heap.size (by simp; omega)
  have h2 : ((W2.alloc (.cells #[.int .i64 a.f0, .string a.f1, .int .i64 a.f2, .slice A a.f3.length c] 25)).alloc (.cells #[.int .i64 b.f0, .string b.f1, .int .i64 b.f2, .slice B b.f3.length d] 25)).heap[W2.heap.size]? = some (.cells #[.int .i64 a.f0, .string a.f1, .int .i64 a.f2, .slice A a.f3.length c] 25 (0, 0)) :=
   (Below.heap_alloc _ _ _ (by simp)).trans (World.alloc_heap_new _ _)
  exact (Below.heap_alloc _ _ _ (blk_lt (h1.trans h2))).trans (h1.trans h2)
 ·have h1 := hB3.block (W2.heap.size + 1) (by simp)
  have h2 : ((W2.alloc (.cells #[.int .i64 a.f0, .string a.f1, .int .i64 a.f2, .slice A a.f3.length c] 25)).alloc (.cells #[.int .i64 b.f0, .string b.f1, .int .i64 b.f2, .slice B b.f3.length d] 25)).heap[W2.heap.size + 1]? = some (.cells #[.int .i64 b.f0, .string b.f1, .int .i64 b.f2, .slice B b.f3.length d] 25 (0, 0)) := by
   have := World.alloc_heap_new (W2.alloc (.cells #[.int .i64 a.f0, .string a.f1, .int .i64 a.f2, .slice A a.f3.length c] 25)) (.cells #[.int .i64 b.f0, .string b.f1, .int .i64 b.f2, .slice B b.f3.length d] 25)
   rwa [World.size_alloc] at this
  exact (Below.heap_alloc _ _ _ (blk_lt (h1.trans h2))).trans (h1.trans h2)
theorem TsS.ts (h : TsS w n m a b u A B U c d e W) : Ts w n m a b u A B U c d e W := h.2.2.2.2.2.2.2.2.2.2.2.2.out
theorem sm_ab (H : SameOk a b u s) (h : TsS w n m a b u A B U c d e W) :
  Calls Tryd.prog 43 #[.agg #[.int .i64 a.f0, .string a.f1, .int .i64 a.f2, .slice A a.f3.length c], .agg #[.int .i64 b.f0, .string b.f1, .int .i64 b.f2, .slice B b.f3.length d]] W fun e_ W' => e_ = .returned (.bool s) ∧ Ts w n m a b u A B U c d e W' := by
 refine (same_at (x := a) (y := b) H.oa h.ts.la h.ts.ca h.ts.lb h.ts.cb).mono ?_
 rintro e_ W' ⟨rfl, hB⟩
 exact ⟨by rw [H.ab], h.ts.below hB⟩
theorem sm_ba (H : SameOk a b u s) (h : TsS w n m a b u A B U c d e W) :
  Calls Tryd.prog 43 #[.agg #[.int .i64 b.f0, .string b.f1, .int .i64 b.f2, .slice B b.f3.length d], .agg #[.int .i64 a.f0, .string a.f1, .int .i64 a.f2, .slice A a.f3.length c]] W fun e_ W' => e_ = .returned (.bool s) ∧ Ts w n m a b u A B U c d e W' := by
 refine (same_at (x := b) (y := a) H.ob h.ts.lb h.ts.cb h.ts.la h.ts.ca).mono ?_
 rintro e_ W' ⟨rfl, hB⟩
 exact ⟨by rw [H.ba], h.ts.below hB⟩
theorem sm_aa (H : SameOk a b u s) (h : TsS w n m a b u A B U c d e W) :
  Calls Tryd.prog 43 #[.agg #[.int .i64 a.f0, .string a.f1, .int .i64 a.f2, .slice A a.f3.length c], .agg #[.int .i64 a.f0, .string a.f1, .int .i64 a.f2, .slice A a.f3.length c]] W fun e_ W' => e_ = .returned (.bool true) ∧ Ts w n m a b u A B U c d e W' := by
 refine (same_at (x := a) (y := a) H.oa h.ts.la h.ts.ca h.ts.la h.ts.ca).mono ?_
 rintro e_ W' ⟨rfl, hB⟩
 exact ⟨by rw [H.aa], h.ts.below hB⟩
theorem sm_au (H : SameOk a b u s) (h : TsS w n m a b u A B U c d e W) :
  Calls Tryd.prog 43 #[.agg #[.int .i64 a.f0, .string a.f1, .int .i64 a.f2, .slice A a.f3.length c], .agg #[.int .i64 u.f0, .string u.f1, .int .i64 u.f2, .slice U u.f3.length e]] W fun e_ W' => e_ = .returned (.bool true) ∧ Ts w n m a b u A B U c d e W' := by
 refine (same_at (x := a) (y := u) H.oa h.ts.la h.ts.ca h.ts.lu h.ts.cu).mono ?_
 rintro e_ W' ⟨rfl, hB⟩
 exact ⟨by rw [H.au], h.ts.below hB⟩
theorem sm_ub (H : SameOk a b u s) (h : TsS w n m a b u A B U c d e W) :
  Calls Tryd.prog 43 #[.agg #[.int .i64 u.f0, .string u.f1, .int .i64 u.f2, .slice U u.f3.length e], .agg #[.int .i64 b.f0, .string b.f1, .int .i64 b.f2, .slice B b.f3.length d]] W fun e_ W' => e_ = .returned (.bool s) ∧ Ts w n m a b u A B U c d e W' := by
 refine (same_at (x := u) (y := b) H.ou h.ts.lu h.ts.cu h.ts.lb h.ts.cb).mono ?_
 rintro e_ W' ⟨rfl, hB⟩
 exact ⟨by rw [H.ub], h.ts.below hB⟩
theorem ref_ab (H : SameOk a b u s) (h : TsS w n m a b u A B U c d e W) :
  Calls Tryd.prog 44 #[.agg #[.int .i64 a.f0, .string a.f1, .int .i64 a.f2, .slice A a.f3.length c], .agg #[.int .i64 b.f0, .string b.f1, .int .i64 b.f2, .slice B b.f3.length d]] W fun e_ W' => e_ = .returned (.bool s) ∧ Ts w n m a b u A B U c d e W' := by
 refine (ref_at (x := a) (y := b) H.oa h.ts.la h.ts.ca h.ts.lb h.ts.cb).mono ?_
 rintro e_ W' ⟨rfl, hB⟩
 exact ⟨by rw [H.ab], h.ts.below hB⟩
end
attribute [local go_sem] Oper.semAt_some
set_option maxRecDepth 100000 in
set_option maxHeartbeats 8000000 in
theorem TermSame_all (w : World) (hN : NamesLaid w) (A0 : Option Addr) (c0 : Nat) (l0 : List Int) (hr0 : Kd.C (Kd.int .i64) w A0 l0.length l0) (hc0 : l0.length ≤ c0) (hl0 : l0.length ≤ 4611686018427387904)
  (A1 : Option Addr) (c1 : Nat) (l1 : List Int) (hr1 : Kd.C (Kd.int .i64) w A1 l1.length l1) (hc1 : l1.length ≤ c1) (hl1 : l1.length ≤ 4611686018427387904)
  (A2 : Option Addr) (c2 : Nat) (l2 : List Int) (hr2 : Kd.C (Kd.int .i64) w A2 l2.length l2) (hc2 : l2.length ≤ c2) (hl2 : l2.length ≤ 4611686018427387904) (n0 : Int) (wf0 : (Lit.int .i64 n0).wf = true) :
  Calls Tryd.prog 4 #[.slice A0 l0.length c0, .slice A1 l1.length c1, .slice A2 l2.length c2, .int .i64 n0] w fun e w' => e = .returned (.bool true) ∧ Below w.heap.size w w' := by
 obtain ⟨a, hea, hna⟩ := made_some l0 l1 hl0 hl1
 obtain ⟨b, heb, hnb⟩ := made_some l0 l2 hl0 hl2
 have hoa : okN a := by unfold okN; omega
 have hob : okN b := by unfold okN; omega
 obtain ⟨u, heu, hau, hnu⟩ := ren_some _ a n0 (Nat.le_refl _) hoa
 obtain ⟨s, hs⟩ : ∃ s, sameT a b = s := ⟨_, rfl⟩
 have HO : Hid (SameOk a b u s) := Lib.hid ⟨hoa, hob, by unfold okN; omega, hs, by rw [same_symm _ b a (Nat.le_refl _)]; exact hs, same_refl _ a (Nat.le_refl _), hau, by rw [same_left hau]; exact hs⟩
 obtain ⟨ka, hka⟩ := hea.rounds
 obtain ⟨kb, hkb⟩ := heb.rounds
 obtain ⟨ku, hku⟩ := heu.rounds
 have HKA := Lib.hid hka
 have HKB := Lib.hid hkb
 have HKU := Lib.hid hku
 have HR0 := Lib.hid hr0
 have HR1 := Lib.hid hr1
 have HR2 := Lib.hid hr2
 have HC0 := Lib.hid hc0
 have HC1 := Lib.hid hc1
 have HC2 := Lib.hid hc2
 have HN := Lib.hid hN
 clear hea heb heu hna hnb hoa hob hau hnu hs hka hkb hku hr0 hr1 hr2 hc0 hc1 hc2 hl0 hl1 hl2 hN wf0
 go_enter Tryd.func4, Tryd.ntmps4
 go_wp2_with (first
  | (go_at_call 17; (with_reducible refine (f5_made.calls ka A0 c0 l0 A1 c1 l1 a.f0 a.f1 a.f2 a.f3 w HR0.out HC0.out HR1.out HC1.out HKA.out HN.out).mono ?_); rintro e_ W1 ⟨v1, rfl, hn1, hB1⟩; obtain ⟨A, c, rfl⟩ := Kd.N_slice hn1; have HLA := Lib.hid (Kd.N_reads' hn1).2; have HB1 := Lib.hid hB1; clear hn1 hB1)
  | (go_at_call 17; (with_reducible refine (f5_made.calls kb A0 c0 l0 A2 c2 l2 b.f0 b.f1 b.f2 b.f3 W1 (Kd.C_below HR0.out HB1.out) HC0.out (Kd.C_below HR2.out HB1.out) HC2.out HKB.out (HN.out.below HB1.out)).mono ?_); rintro e_ W2 ⟨v2, rfl, hn2, hB2⟩; obtain ⟨B, d, rfl⟩ := Kd.N_slice hn2; have HLB := Lib.hid (Kd.N_reads' hn2).2; have HB2 := Lib.hid hB2; clear hn2 hB2)
  | (go_at_call 42; (with_reducible refine (f5_renamed.calls ku a.f0 a.f1 a.f2 A c a.f3 n0 u.f0 u.f1 u.f2 u.f3 _ ?sl HLA.out.1 HKU.out).mono ?_); (case sl => exact Kd.C_alloc (Kd.C_alloc (Kd.C_below HLA.out.2 HB2.out) _) _); rintro e_ W3 ⟨v3, rfl, hn3, hB3⟩; obtain ⟨U, e, rfl⟩ := Kd.R_slice hn3; have HLU := Lib.hid (Kd.R_reads' hn3).2; have HB3 := Lib.hid hB3; clear hn3 hB3))
 have HT0 := Lib.hid (Ts.mk' HB1.out HB2.out HB3.out HLA.out.1 HLA.out.2 HLB.out.1 HLB.out.2 HLU.out.1 HLU.out.2)
 generalize W3.alloc (.cells #[.int .i64 u.f0, .string u.f1, .int .i64 u.f2, .slice U u.f3.length e] 25) = W0 at HT0 ⊢
 clear HLA HLB HLU HB1 HB2 HB3 HKA HKB HKU HR0 HR1 HR2 HC0 HC1 HC2 HN
 generalize W2.heap.size = n at HT0 ⊢
 generalize W3.heap.size = m at HT0 ⊢
 obtain ⟨s0, s1, s2, s3, s4, s5, s6, s7, s8, s9, s10, s11, _⟩ := HT0.out.S
 cases s
 all_goals
  go_region_held3 (fun W' => W'.cell? ⟨n, 0, none⟩ = some (.int .i64 a.f0) ∧ W'.cell? ⟨n, 1, none⟩ = some (.string a.f1) ∧ W'.cell? ⟨n, 2, none⟩ = some (.int .i64 a.f2) ∧ W'.cell? ⟨n, 3, none⟩ = some (.slice A a.f3.length c) ∧ W'.cell? ⟨n + 1, 0, none⟩ = some (.int .i64 b.f0) ∧ W'.cell? ⟨n + 1, 1, none⟩ = some (.string b.f1) ∧ W'.cell? ⟨n + 1, 2, none⟩ = some (.int .i64 b.f2) ∧ W'.cell? ⟨n + 1, 3, none⟩ = some (.slice B b.f3.length d) ∧ W'.cell? ⟨m, 0, none⟩ = some (.int .i64 u.f0) ∧ W'.cell? ⟨m, 1, none⟩ = some (.string u.f1) ∧ W'.cell? ⟨m, 2, none⟩ = some (.int .i64 u.f2) ∧ W'.cell? ⟨m, 3, none⟩ = some (.slice U u.f3.length e) ∧ Hid (Ts w n m a b u A B U c d e W')) (first | exact Ts.S (Hid.out (by assumption)) | exact Ts.S (Ts.below HT0.out (below_drew (Below.refl _ _))))
   (first
   | (go_at_call 43; (with_reducible refine (sm_ab HO.out (by assumption)).mono ?_); rintro e_ Wn ⟨rfl, hT⟩; have HTn := Lib.hid hT; clear hT)
   | (go_at_call 43; (with_reducible refine (sm_ba HO.out (by assumption)).mono ?_); rintro e_ Wn ⟨rfl, hT⟩; have HTn := Lib.hid hT; clear hT)
   | (go_at_call 43; (with_reducible refine (sm_aa HO.out (by assumption)).mono ?_); rintro e_ Wn ⟨rfl, hT⟩; have HTn := Lib.hid hT; clear hT)
   | (go_at_call 43; (with_reducible refine (sm_au HO.out (by assumption)).mono ?_); rintro e_ Wn ⟨rfl, hT⟩; have HTn := Lib.hid hT; clear hT)
   | (go_at_call 43; (with_reducible refine (sm_ub HO.out (by assumption)).mono ?_); rintro e_ Wn ⟨rfl, hT⟩; have HTn := Lib.hid hT; clear hT)
   | (go_at_call 44; (with_reducible refine (ref_ab HO.out (by assumption)).mono ?_); rintro e_ Wn ⟨rfl, hT⟩; have HTn := Lib.hid hT; clear hT))
  have HTf := HTn;clear HTn
  go_wp2_with (go_at_call 41; (with_reducible refine (f5_awake.calls true _ rfl).mono ?_); rintro e_ W4 ⟨rfl, hB⟩; have HB4 := Lib.hid (below_trans HTf.out.be hB); clear hB)
  go_ret
  exact ⟨rfl, HB4.out⟩
end Go.Proofs.YtpkkoiljombooaaDoor.G
