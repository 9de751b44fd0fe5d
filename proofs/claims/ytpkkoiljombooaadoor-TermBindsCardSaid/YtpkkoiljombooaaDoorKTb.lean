import Derived.Test.YtpkkoiljombooaaDoorKG0
import Derived.Test.YtpkkoiljombooaaDoorKG6
import Derived.Test.YtpkkoiljombooaaDoorKAw
import Derived.Test.YtpkkoiljombooaaDoorKH3
import Derived.Test.YtpkkoiljombooaaDoorKH4
import Derived.Test.YtpkkoiljombooaaDoorKH4b
import Derived.Test.YtpkkoiljombooaaDoorKTl
import Derived.Test.YtpkkoiljombooaaDoorKPb
import Derived.WalkKit
import Derived.KernelRfl
import Derived.Deep.RegionHeld3
import Derived.IntWalk
import Derived.Test.YtpkkoiljombooaaDoorKWMore
set_option linter.unusedVariables false
set_option linter.unusedSimpArgs false
namespace Go.Proofs.YtpkkoiljombooaaDoor.G
open Go.RowKit Go.Proofs.YtpkkoiljombooaaDoorW.PrintWords Go.Proofs.YtpkkoiljombooaaDoorW.PrintLast Go.Proofs.YtpkkoiljombooaaDoorW.PrintMore
theorem Ev.some {α : Type} {g : Nat → Option α} {r : α} (h : Ev g r) : ∃ k, g k = some r := Ev.rounds h
section
variable {t : Tm} {A : Option Addr} {c : Nat} {W : World}
theorem scope_at (ho : okN t) (hw : wfE t = 0) (hl : lies W A t.f3) (hc : t.f3.length ≤ c) :
  Calls Tryd.prog 31 #[.agg #[.int .i64 t.f0, .string t.f1, .int .i64 t.f2, .slice A t.f3.length c]] W fun e W' => e = .returned (.int .i64 (scopeW t)) ∧ Below W.heap.size W W' := by
 obtain ⟨k, hk⟩ := (wf_ev ho).rounds
 refine term_Scope.calls k t.f0 t.f1 t.f2 A c t.f3 _ W hl hc ?_
 unfold term_Scope.f
 rw [hk, Option.bind_some, tm_eta, if_pos (okN_fit ho), if_pos hw]
theorem occurs_at (i : Int) (hi : 0 ≤ i) (ho : okN t) (hw : wfE t = 0) (hl : lies W A t.f3) (hc : t.f3.length ≤ c) :
  Calls Tryd.prog 33 #[.agg #[.int .i64 t.f0, .string t.f1, .int .i64 t.f2, .slice A t.f3.length c], .int .i64 i] W fun e W' => e = .returned (.bool (occursW t i)) ∧ Below W.heap.size W W' := by
 obtain ⟨k, hk⟩ := (wf_ev ho).rounds
 refine term_Occurs.calls k t.f0 t.f1 t.f2 A c t.f3 i _ W hl hc ?_
 unfold term_Occurs.f
 rw [hk, Option.bind_some, tm_eta, if_pos (okN_fit ho), if_pos ⟨hw, hi⟩]
theorem size_at (ho : okN t) (hl : lies W A t.f3) (hc : t.f3.length ≤ c) :
  Calls Tryd.prog 27 #[.agg #[.int .i64 t.f0, .string t.f1, .int .i64 t.f2, .slice A t.f3.length c]] W fun e W' => e = .returned (.int .i64 (nT t)) ∧ Below W.heap.size W W' :=
 term_Size.calls t.f0 t.f1 t.f2 A c t.f3 _ W hl hc (size_some ho)
theorem depth_at (ho : okN t) (hl : lies W A t.f3) (hc : t.f3.length ≤ c) :
  Calls Tryd.prog 29 #[.agg #[.int .i64 t.f0, .string t.f1, .int .i64 t.f2, .slice A t.f3.length c]] W fun e W' => e = .returned (.int .i64 (dT t)) ∧ Below W.heap.size W W' := by
 obtain ⟨k, hk⟩ := (depth_ev _ t (Nat.le_refl _) ho).rounds
 exact term_Depth.calls k t.f0 t.f1 t.f2 A c t.f3 _ W hl hc hk
end
structure Tb (w : World) (n : Nat) (x : Tm) (A : Option Addr) (c : Nat) (W : World) : Prop where
 bt : W.heap[n]? = some (.cells #[.int .i64 x.f0, .string x.f1, .int .i64 x.f2, .slice A x.f3.length c] 25 (0, 0))
 br : W.heap[n + 1]? = some (.cells #[.int .i64 x.f0, .string x.f1, .int .i64 x.f2, .slice A x.f3.length c] 25 (0, 0))
 bu : W.heap[n + 1 + 1]? = some (.cells #[.int .i64 3, .string ⟨#[]⟩, .int .i64 0, .slice (some ⟨n + 1, 0, none⟩) 1 1] 25 (0, 0))
 li : lies W A x.f3
 le : x.f3.length ≤ c
 be : Below w.heap.size w W
theorem Tb.below {w W W' : World} {n : Nat} {x : Tm} {A : Option Addr} {c : Nat} (h : Tb w n x A c W) (hb : Below W.heap.size W W') : Tb w n x A c W' :=
 ⟨(hb.block _ (blk_lt h.bt)).trans h.bt, (hb.block _ (blk_lt h.br)).trans h.br, (hb.block _ (blk_lt h.bu)).trans h.bu, Kd.C_below h.li hb, h.le, below_trans h.be hb⟩
theorem Tb.lu {w W : World} {n : Nat} {x : Tm} {A : Option Addr} {c : Nat} (h : Tb w n x A c W) : lies W (some ⟨n + 1, 0, none⟩) (lamT x).f3 := lies_one h.br h.li h.le
theorem Tb.mk' {w W : World} {x : Tm} {A : Option Addr} {c : Nat} (hl : lies W A x.f3) (hc : x.f3.length ≤ c) (hb : Below w.heap.size w W) :
  Tb w W.heap.size x A c (((W.alloc (.cells #[.int .i64 x.f0, .string x.f1, .int .i64 x.f2, .slice A x.f3.length c] 25)).alloc (.cells #[.int .i64 x.f0, .string x.f1, .int .i64 x.f2, .slice A x.f3.length c] 25)).alloc (.cells #[.int .i64 3, .string ⟨#[]⟩, .int .i64 0, .slice (some ⟨W.heap.size + 1, 0, none⟩) 1 1] 25)) := by
 refine ⟨?_, ?_, ?_, Kd.C_alloc (Kd.C_alloc (Kd.C_alloc hl _) _) _, hc, yF (yF (yF hb _) _) _⟩
 ·exact (Below.heap_alloc _ _ _ (by first | (simp; done) | (simp; omega))).trans ((Below.heap_alloc _ _ _ (by simp)).trans (World.alloc_heap_new _ _))
 ·refine (Below.heap_alloc _ _ _ (by simp)).trans ?_
  have := World.alloc_heap_new (W.alloc (.cells #[.int .i64 x.f0, .string x.f1, .int .i64 x.f2, .slice A x.f3.length c] 25)) (.cells #[.int .i64 x.f0, .string x.f1, .int .i64 x.f2, .slice A x.f3.length c] 25)
  rwa [World.size_alloc] at this
 ·have := World.alloc_heap_new ((W.alloc (.cells #[.int .i64 x.f0, .string x.f1, .int .i64 x.f2, .slice A x.f3.length c] 25)).alloc (.cells #[.int .i64 x.f0, .string x.f1, .int .i64 x.f2, .slice A x.f3.length c] 25)) (.cells #[.int .i64 3, .string ⟨#[]⟩, .int .i64 0, .slice (some ⟨W.heap.size + 1, 0, none⟩) 1 1] 25)
  rwa [World.size_alloc, World.size_alloc] at this
abbrev TbS (w : World) (n : Nat) (x : Tm) (A : Option Addr) (c : Nat) (W : World) : Prop :=
 W.cell? ⟨n, 0, none⟩ = some (.int .i64 x.f0) ∧ W.cell? ⟨n, 1, none⟩ = some (.string x.f1) ∧ W.cell? ⟨n, 2, none⟩ = some (.int .i64 x.f2) ∧ W.cell? ⟨n, 3, none⟩ = some (.slice A x.f3.length c) ∧
 W.cell? ⟨n + 1 + 1, 0, none⟩ = some (.int .i64 3) ∧ W.cell? ⟨n + 1 + 1, 1, none⟩ = some (.string ⟨#[]⟩) ∧ W.cell? ⟨n + 1 + 1, 2, none⟩ = some (.int .i64 0) ∧ W.cell? ⟨n + 1 + 1, 3, none⟩ = some (.slice (some ⟨n + 1, 0, none⟩) 1 1) ∧ Hid (Tb w n x A c W)
theorem Tb.S {w W : World} {n : Nat} {x : Tm} {A : Option Addr} {c : Nat} (h : Tb w n x A c W) : TbS w n x A c W :=
 ⟨(yE h.bt 0).trans rfl, (yE h.bt 1).trans rfl, (yE h.bt 2).trans rfl, (yE h.bt 3).trans rfl, (yE h.bu 0).trans rfl, (yE h.bu 1).trans rfl, (yE h.bu 2).trans rfl, (yE h.bu 3).trans rfl, Lib.hid h⟩
theorem TbS.tb {w W : World} {n : Nat} {x : Tm} {A : Option Addr} {c : Nat} (h : TbS w n x A c W) : Tb w n x A c W := h.2.2.2.2.2.2.2.2.out
section
variable {t : Tm} {A : Option Addr} {c n : Nat} {w W : World}
theorem scope_u (H : BindsOk t) (h : TbS w n t A c W) (v : Int) (hv : Hid (max (scopeW t - 1) 0 = v)) :
  Calls Tryd.prog 31 #[.agg #[.int .i64 3, .string ⟨#[]⟩, .int .i64 0, .slice (some ⟨n + 1, 0, none⟩) 1 1]] W fun e W' => e = .returned (.int .i64 v) ∧ Tb w n t A c W' := by
 refine (scope_at (t := lamT t) (by have := H.n; unfold okN; simp only [nT, nTs]; omega) H.wu h.tb.lu (Nat.le_refl _)).mono ?_
 rintro e W' ⟨rfl, hB⟩
 refine ⟨?_, h.tb.below hB⟩
 rw [H.su, hv.out]
theorem scope_t (H : BindsOk t) (h : TbS w n t A c W) :
  Calls Tryd.prog 31 #[.agg #[.int .i64 t.f0, .string t.f1, .int .i64 t.f2, .slice A t.f3.length c]] W fun e W' => e = .returned (.int .i64 (scopeW t)) ∧ Tb w n t A c W' := by
 refine (scope_at (by have := H.n; unfold okN; omega) H.wt h.tb.li h.tb.le).mono ?_
 rintro e W' ⟨rfl, hB⟩
 exact ⟨rfl, h.tb.below hB⟩
theorem size_u (H : BindsOk t) (h : TbS w n t A c W) :
  Calls Tryd.prog 27 #[.agg #[.int .i64 3, .string ⟨#[]⟩, .int .i64 0, .slice (some ⟨n + 1, 0, none⟩) 1 1]] W fun e W' => e = .returned (.int .i64 ((nT t : Int) + 1)) ∧ Tb w n t A c W' := by
 refine (size_at (t := lamT t) (by have := H.n; unfold okN; simp only [nT, nTs]; omega) h.tb.lu (Nat.le_refl _)).mono ?_
 rintro e W' ⟨rfl, hB⟩
 exact ⟨by simp only [nT, nTs]; congr 2, h.tb.below hB⟩
theorem size_t (H : BindsOk t) (h : TbS w n t A c W) :
  Calls Tryd.prog 27 #[.agg #[.int .i64 t.f0, .string t.f1, .int .i64 t.f2, .slice A t.f3.length c]] W fun e W' => e = .returned (.int .i64 (nT t : Int)) ∧ Tb w n t A c W' := by
 refine (size_at (by have := H.n; unfold okN; omega) h.tb.li h.tb.le).mono ?_
 rintro e W' ⟨rfl, hB⟩
 exact ⟨rfl, h.tb.below hB⟩
theorem depth_u (H : BindsOk t) (h : TbS w n t A c W) :
  Calls Tryd.prog 29 #[.agg #[.int .i64 3, .string ⟨#[]⟩, .int .i64 0, .slice (some ⟨n + 1, 0, none⟩) 1 1]] W fun e W' => e = .returned (.int .i64 ((dT t : Int) + 1)) ∧ Tb w n t A c W' := by
 refine (depth_at (t := lamT t) (by have := H.n; unfold okN; simp only [nT, nTs]; omega) h.tb.lu (Nat.le_refl _)).mono ?_
 rintro e W' ⟨rfl, hB⟩
 exact ⟨by simp only [dT, dTs, Nat.max_zero]; congr 2, h.tb.below hB⟩
theorem depth_t (H : BindsOk t) (h : TbS w n t A c W) :
  Calls Tryd.prog 29 #[.agg #[.int .i64 t.f0, .string t.f1, .int .i64 t.f2, .slice A t.f3.length c]] W fun e W' => e = .returned (.int .i64 (dT t : Int)) ∧ Tb w n t A c W' := by
 refine (depth_at (by have := H.n; unfold okN; omega) h.tb.li h.tb.le).mono ?_
 rintro e W' ⟨rfl, hB⟩
 exact ⟨rfl, h.tb.below hB⟩
theorem occ_t (H : BindsOk t) (h : TbS w n t A c W) (i : Int) (hi : 0 ≤ i) (b : Bool) (hb : Hid (occursW t i = b)) :
  Calls Tryd.prog 33 #[.agg #[.int .i64 t.f0, .string t.f1, .int .i64 t.f2, .slice A t.f3.length c], .int .i64 i] W fun e W' => e = .returned (.bool b) ∧ Tb w n t A c W' := by
 refine (occurs_at i hi (by have := H.n; unfold okN; omega) H.wt h.tb.li h.tb.le).mono ?_
 rintro e W' ⟨rfl, hB⟩
 exact ⟨by rw [hb.out], h.tb.below hB⟩
theorem occ_u (H : BindsOk t) (h : TbS w n t A c W) (i : Int) (hi : 0 ≤ i) (b : Bool) (hb : Hid (occursW t (i + 1) = b)) :
  Calls Tryd.prog 33 #[.agg #[.int .i64 3, .string ⟨#[]⟩, .int .i64 0, .slice (some ⟨n + 1, 0, none⟩) 1 1], .int .i64 i] W fun e W' => e = .returned (.bool b) ∧ Tb w n t A c W' := by
 refine (occurs_at (t := lamT t) i hi (by have := H.n; unfold okN; simp only [nT, nTs]; omega) H.wu h.tb.lu (Nat.le_refl _)).mono ?_
 rintro e W' ⟨rfl, hB⟩
 exact ⟨by rw [H.ou, hb.out], h.tb.below hB⟩
end
attribute [local go_sem] Oper.semAt_some max2_int min2_int max_two min_two
set_option maxRecDepth 100000 in
set_option maxHeartbeats 4000000 in
theorem TermBinds_any (A0 : Option Addr) (c0 : Nat) (l0 : List Int) (w : World) (hr0 : Kd.C (Kd.int .i64) w A0 l0.length l0) (hc0 : l0.length ≤ c0) (hl0 : l0.length ≤ 4611686018427387904) (hN : NamesLaid w) :
  Calls Tryd.prog 5 #[.slice A0 l0.length c0] w fun e w' => e = .returned (.bool true) ∧ Below w.heap.size w w' := by
 obtain ⟨t, j, he, ht, _, _⟩ := tm_some l0 hl0 4 4 5 2 (by omega) (by omega) (by omega) (by omega) (by omega) (by omega) 0 (by omega) (by omega)
 have HT := Lib.hid (binds_ok ht)
 obtain ⟨k, hk⟩ := he.rounds
 have HK : Hid (fm_TermL.f k l0 4 5 2 = some (t.f0, t.f1, t.f2, t.f3)) := Lib.hid (by unfold fm_TermL.f; rw [hk]; rfl)
 have HR := Lib.hid hr0
 have HC := Lib.hid hc0
 have HNL := Lib.hid hN
 clear he ht hk hr0 hc0 hl0 hN
 go_enter Tryd.func5, Tryd.ntmps5
 go_wp2_with (go_at_call 45; refine (fm_TermL.calls k A0 c0 l0 4 5 2 t.f0 t.f1 t.f2 t.f3 _ HR.out HC.out HK.out HNL.out).mono ?_; rintro e W1 ⟨v3, rfl, hn3, hB1⟩; obtain ⟨A, c, rfl⟩ := Kd.N_slice hn3; have HL := Lib.hid (Kd.N_reads' hn3).2; have HB1 := Lib.hid hB1; have hz : w.heap.size ≤ W1.heap.size := hB1.size; clear hn3 hB1)
 have HB0 := Lib.hid (Tb.mk' (w := w) HL.out.2 HL.out.1 HB1.out)
 generalize ((W1.alloc (.cells #[.int .i64 t.f0, .string t.f1, .int .i64 t.f2, .slice A t.f3.length c] 25)).alloc (.cells #[.int .i64 t.f0, .string t.f1, .int .i64 t.f2, .slice A t.f3.length c] 25)).alloc (.cells #[.int .i64 3, .string ⟨#[]⟩, .int .i64 0, .slice (some ⟨W1.heap.size + 1, 0, none⟩) 1 1] 25) = W0 at HB0 ⊢
 clear HL HB1 HNL HK HR HC hz;have HS0 := HB0.out.S
 obtain ⟨s0, s1, s2, s3, s4, s5, s6, s7, _⟩ := HS0
 obtain ⟨m, hm⟩ : ∃ m : Int, m = scopeW t - 1 := ⟨_, rfl⟩
 have w1 : IntKind.i64.wrap (scopeW t - 1) = m := by rw [hm]; exact IntWalk.i64_in _ (by have h1 := HT.out.s; have h2 := lastV_bound (varsT t) 6; omega)
 have w2 : IntKind.i64.wrap ((nT t : Int) + 1) = (nT t : Int) + 1 := IntWalk.i64_in _ (by have h1 := HT.out.n; omega)
 have w3 : IntKind.i64.wrap ((dT t : Int) + 1) = (dT t : Int) + 1 := IntWalk.i64_in _ (by have h1 := HT.out.n; have h2 := dT_le_nT _ t (Nat.le_refl _); omega)
 rcases Int.lt_or_le m 0 with hm0 | hm0
 all_goals
  have HV : Hid (max (scopeW t - 1) 0 = (if m < 0 then 0 else m)) := Lib.hid (by rw [hm]; split <;> omega)
  first | rw [if_pos hm0] at HV | rw [if_neg (Int.not_lt.2 hm0)] at HV
  first | (have hif : (if m < 0 then (0 : Int) else m) = 0 := if_pos hm0) | (have hif : (if m < 0 then (0 : Int) else m) = m := if_neg (Int.not_lt.2 hm0))
  clear hm
  go_region_held3 (fun W' => W'.cell? ⟨W1.heap.size, 0, none⟩ = some (.int .i64 t.f0) ∧ W'.cell? ⟨W1.heap.size, 1, none⟩ = some (.string t.f1) ∧ W'.cell? ⟨W1.heap.size, 2, none⟩ = some (.int .i64 t.f2) ∧ W'.cell? ⟨W1.heap.size, 3, none⟩ = some (.slice A t.f3.length c) ∧ W'.cell? ⟨W1.heap.size + 1 + 1, 0, none⟩ = some (.int .i64 3) ∧ W'.cell? ⟨W1.heap.size + 1 + 1, 1, none⟩ = some (.string ⟨#[]⟩) ∧ W'.cell? ⟨W1.heap.size + 1 + 1, 2, none⟩ = some (.int .i64 0) ∧ W'.cell? ⟨W1.heap.size + 1 + 1, 3, none⟩ = some (.slice (some ⟨W1.heap.size + 1, 0, none⟩) 1 1) ∧ Hid (Tb w W1.heap.size t A c W')) (first | exact Tb.S (Hid.out (by assumption)) | exact Tb.S (Tb.below HB0.out (below_drew (Below.refl _ _))))
   (first
    | (go_at_call 31; (with_reducible refine (scope_u HT.out (by assumption) _ HV).mono ?_); rintro e W2 ⟨rfl, hT⟩; have HTn := Lib.hid hT; clear hT)
    | (go_at_call 31; (with_reducible refine (scope_t HT.out (by assumption)).mono ?_); rintro e W2 ⟨rfl, hT⟩; have HTn := Lib.hid hT; clear hT)
    | (go_at_call 27; (with_reducible refine (size_u HT.out (by assumption)).mono ?_); rintro e W2 ⟨rfl, hT⟩; have HTn := Lib.hid hT; clear hT)
    | (go_at_call 27; (with_reducible refine (size_t HT.out (by assumption)).mono ?_); rintro e W2 ⟨rfl, hT⟩; have HTn := Lib.hid hT; clear hT)
    | (go_at_call 29; (with_reducible refine (depth_u HT.out (by assumption)).mono ?_); rintro e W2 ⟨rfl, hT⟩; have HTn := Lib.hid hT; clear hT)
    | (go_at_call 29; (with_reducible refine (depth_t HT.out (by assumption)).mono ?_); rintro e W2 ⟨rfl, hT⟩; have HTn := Lib.hid hT; clear hT))
  have HB2 := HTn;clear HTn hif hm0 w1 w2 w3 HV
  go_wp2_with fail
  go_loopw [5, 6] (fun v5 v6 wr => ∃ k : Nat, k ≤ 6 ∧ v6 = .int .i64 k ∧ v5 = .int .i64 (lastV (varsT t) k) ∧ Hid (Tb w W1.heap.size t A c wr)) (fun _ v6 _ => 6 - (intOf v6).toNat)
  case atStart => exact ⟨0, by omega, rfl, rfl, HB2⟩
  case round =>
   obtain ⟨k, hk, rfl, rfl, HBk⟩ := hrel
   obtain ⟨s0, s1, s2, s3, s4, s5, s6, s7, _⟩ := HBk.out.S
   by_cases hlt : k < 6
   ·obtain ⟨b, hb⟩ : ∃ b, occursW t (k : Int) = b := ⟨_, rfl⟩
    obtain ⟨b2, hb2⟩ : ∃ b, occursW t ((k : Int) + 1) = b := ⟨_, rfl⟩
    have HL : Hid (lastV (varsT t) (k + 1) = if b = true then (k : Int) else lastV (varsT t) k) := Lib.hid (by rw [← hb, HT.out.ot]; rfl)
    have HO := Lib.hid hb
    have HO2 := Lib.hid hb2
    clear hb hb2
    have w1 : IntKind.i64.wrap ((k : Int) + 1) = (k : Int) + 1 := IntWalk.i64_in _ (by omega)
    cases b <;> cases b2
    all_goals
     go_wp2_with (go_at_call 33; (with_reducible refine (occ_t HT.out HBk.out.S _ (by omega) _ HO).mono ?_); rintro e W3 ⟨rfl, hT⟩; have HB3 := Lib.hid hT; clear hT s0 s1 s2 s3 s4 s5 s6 s7; obtain ⟨s0, s1, s2, s3, s4, s5, s6, s7, _⟩ := HB3.out.S)
     go_region_held3 (fun W' => W'.cell? ⟨W1.heap.size, 0, none⟩ = some (.int .i64 t.f0) ∧ W'.cell? ⟨W1.heap.size, 1, none⟩ = some (.string t.f1) ∧ W'.cell? ⟨W1.heap.size, 2, none⟩ = some (.int .i64 t.f2) ∧ W'.cell? ⟨W1.heap.size, 3, none⟩ = some (.slice A t.f3.length c) ∧ W'.cell? ⟨W1.heap.size + 1 + 1, 0, none⟩ = some (.int .i64 3) ∧ W'.cell? ⟨W1.heap.size + 1 + 1, 1, none⟩ = some (.string ⟨#[]⟩) ∧ W'.cell? ⟨W1.heap.size + 1 + 1, 2, none⟩ = some (.int .i64 0) ∧ W'.cell? ⟨W1.heap.size + 1 + 1, 3, none⟩ = some (.slice (some ⟨W1.heap.size + 1, 0, none⟩) 1 1) ∧ Hid (Tb w W1.heap.size t A c W')) (first | exact Tb.S (Hid.out (by assumption)) | exact Tb.S (Tb.below HB3.out (below_drew (Below.refl _ _))))
      (first
       | (go_at_call 33; (with_reducible refine (occ_u HT.out (by assumption) _ (by omega) _ HO2).mono ?_); rintro e W4 ⟨rfl, hT⟩; have HTn := Lib.hid hT; clear hT)
       | (go_at_call 33; (with_reducible refine (occ_t HT.out (by assumption) _ (by omega) _ HO2).mono ?_); rintro e W4 ⟨rfl, hT⟩; have HTn := Lib.hid hT; clear hT))
     have HB4 := HTn;clear HTn
     go_wp2_with fail
     go_roundw
     case rel => exact ⟨k + 1, by omega, by go_num, by rw [HL.out]; rfl, HB4⟩
     case measure => simp [intOf]; omega
   ·have hk6 : k = 6 := by omega
    subst hk6
    have w1 : IntKind.i64.wrap (lastV (varsT t) 6 + 1) = lastV (varsT t) 6 + 1 := IntWalk.i64_in _ (by have h2 := lastV_bound (varsT t) 6; omega)
    have HSL := Lib.hid HT.out.s
    go_wp2_with (first
     | (go_at_call 31; (with_reducible refine (scope_t HT.out HBk.out.S).mono ?_); rintro e W3 ⟨rfl, hT⟩; rw [HSL.out]; have HB3 := Lib.hid hT; clear hT)
     | (go_at_call 41; (with_reducible refine (f5_awake.calls true _ rfl).mono ?_); rintro e W4 ⟨rfl, hB⟩; have HB4 := Lib.hid (below_trans HB3.out.be hB); clear hB))
    go_ret
    exact ⟨rfl, HB4.out⟩
theorem TermBinds_all (w : World) (hN : NamesLaid w) (A0 : Option Addr) (c0 : Nat) (l0 : List Int) (hr0 : Kd.C (Kd.int .i64) w A0 l0.length l0) (hc0 : l0.length ≤ c0) (hl0 : l0.length ≤ 4611686018427387904) :
  Calls Tryd.prog 5 #[.slice A0 l0.length c0] w fun e w' => e = .returned (.bool true) ∧ Below w.heap.size w w' := TermBinds_any A0 c0 l0 w hr0 hc0 hl0 hN
end Go.Proofs.YtpkkoiljombooaaDoor.G
