import Derived.Test.YtpkkoiljombooaaDoorKG0
import Derived.Test.YtpkkoiljombooaaDoorKG9
import Derived.Test.YtpkkoiljombooaaDoorKAw
import Derived.Test.YtpkkoiljombooaaDoorKH4c
import Derived.Test.YtpkkoiljombooaaDoorKTl
import Derived.Test.YtpkkoiljombooaaDoorKPq
import Derived.WalkKit
import Derived.KernelRfl
import Derived.Deep.RegionHeld3
import Derived.IntWalk
import Derived.LoopTactic
import Derived.Test.YtpkkoiljombooaaDoorKWMore
set_option linter.unusedVariables false
set_option linter.unusedSimpArgs false
namespace Go.Proofs.YtpkkoiljombooaaDoor.G
open Go.RowKit Go.Proofs.YtpkkoiljombooaaDoorW.PrintWords Go.Proofs.YtpkkoiljombooaaDoorW.PrintLast Go.Proofs.YtpkkoiljombooaaDoorW.PrintMore
structure Want (W : World) (B base : Nat) (v : Value) (L : List Int) : Prop where
 bx : W.heap[B]? = some (.cells #[v] 22 (0, 0))
 ro : Kd.R (Kd.int .i64) 3 W base (fun k => k ≠ B) v L
 lt : B < base
def AddPost (W : World) (B base : Nat) (v : Value) (L : List Int) (e : Ending) (W' : World) : Prop :=
 ∃ v', e = .returned (.tuple #[]) ∧ Want W' B base v' L ∧ W.heap.size ≤ W'.heap.size ∧ (∀ k, k < W.heap.size → k ≠ B → some k ≠ v.ownBlock → W'.heap[k]? = W.heap[k]?) ∧ (v'.ownBlock = v.ownBlock ∨ ∃ b, v'.ownBlock = some b ∧ W.heap.size ≤ b) ∧ Below B W W'
set_option maxHeartbeats 2000000 in
theorem add_any (B base : Nat) (v : Value) (L : List Int) (n : Int) (W : World) (h : Want W B base v L) (hbs : base ≤ W.heap.size) (hL : L.length ≤ 1000000) :
  Calls Tryd.prog 46 #[.int .i64 n, .pointer (some ⟨B, 0, none⟩)] W (AddPost W B base v (addO L n)) := by
 obtain ⟨A, c, rfl⟩ := Kd.R_slice h.ro
 have hcc : W.cell? ⟨B, 0, none⟩ = some (.slice A L.length c) := (yE h.bx 0).trans rfl
 have hcf := yD h.bx 0
 have HW := Lib.hid h
 have HRD := Lib.hid (Kd.R_reads' h.ro).2.2
 clear h
 go_enter Tryd.func46, Tryd.ntmps46
 go_wp2_with fail
 go_loop [3] (fun i => ∃ k : Nat, k ≤ L.length ∧ i = .int .i64 k ∧ Hid (∀ j : Nat, j < k → L[j]? ≠ some n)) (fun i => L.length - (intOf i).toNat)
 case atStart => exact ⟨0, by omega, rfl, Lib.hid (fun j hj => by omega)⟩
 case round =>
  obtain ⟨k, hk, rfl, HK⟩ := hrel
  by_cases hlt : k < L.length
  ·obtain ⟨ad, rfl, hcell⟩ := Kd.at_int HRD.out (k : Int) (by omega) (by omega)
   rw [Int.toNat_natCast] at hcell
   have hmem : L[k]? = some (rd L (k : Int)) := by unfold rd; rw [Int.toNat_natCast, List.getD_eq_getElem?_getD, List.getElem?_eq_getElem hlt]; rfl
   by_cases he : rd L (k : Int) = n
   ·have HE : Hid (addO L n = L) := Lib.hid (addO_hit (List.mem_of_getElem? (i := k) (by rw [hmem, he])))
    have hb : (rd L (k : Int) == n) = true := beq_iff_eq.mpr he
    clear he hmem
    go_wp2_with fail
    go_end0
    exact ⟨_, rfl, by rw [HE.out]; exact HW.out, Nat.le_refl _, fun _ _ _ _ => rfl, .inl rfl, Below.refl _ _⟩
   ·have hb : (rd L (k : Int) == n) = false := beq_eq_false_iff_ne.mpr he
    have HM := Lib.hid hmem
    have HE := Lib.hid he
    clear he hmem
    go_wp2_with fail
    go_round
    case rel => exact ⟨k + 1, by omega, by go_num, Lib.hid (fun j hj => by
     rcases Nat.lt_or_ge j k with h | h
     ·exact HK.out j h
     ·obtain rfl : j = k := by omega
      rw [HM.out]; intro e; injection e with e; exact HE.out e)⟩
    case measure => simp [intOf]; omega
  ·have hkl : k = L.length := by omega
   have HE : Hid (addO L n = L ++ [n]) := Lib.hid (addO_miss (fun hm => by
    obtain ⟨j, hj, e⟩ := List.getElem_of_mem hm
    exact HK.out j (by omega) (by rw [List.getElem?_eq_getElem hj, e])))
   clear hkl HK
   have hne : some B ≠ (Value.slice A L.length c).ownBlock := fun e => HW.out.ro.1 B e.symm rfl
   have hlB : B < W.heap.size := Nat.lt_of_lt_of_le HW.out.lt hbs
   have HNE := Lib.hid hne
   clear hne
   go_wp2_with ((with_reducible refine gate_builtin (b := .append) (xs := #[.tmp 16, .tmp 18]) rfl ?_); at_builtin; refine Kd.R_append (Kd.int .i64) (w0 := W) base rfl (.tmp 16) (.tmp 18) 22 3 (.int .i64 0) 8 rfl Tryd.underlying22 info3 rfl (by decide) (by omega) (.slice A L.length c) L n [.int .i64 n] (fun k_ => k_ ≠ B) (fun _ => False) rfl rfl ?aP (fun _ hk => hk.elim) ?aF ?aO ?aB ?aS ?aL ?_; (case aP => exact rfl); (case aF => exact (fun k_ hk e => by omega)); (case aO => exact HW.out.ro); (case aB => exact Below.refl _ _); (case aS => exact hbs); (case aL => omega); intro v1 w1 ho hb hg hat; obtain ⟨A1, c1, rfl⟩ := Kd.R_slice ho; have hbx : w1.heap[B]? = some (.cells #[.slice A L.length c] 22 (0, 0)) := (hg.block B hlB HNE.out).trans HW.out.bx; have hc1 : w1.cell? ⟨B, 0, none⟩ = some (.slice A L.length c) := (yE hbx 0).trans rfl; have hf1 := yD hbx 0; have HG := Lib.hid (And.intro ho (And.intro hg hat)); have HBB := Lib.hid hb; have HX := Lib.hid hbx; clear ho hb hg hat hbx)
   go_end0
   refine ⟨_, rfl, ⟨?_, ?_, HW.out.lt⟩, ?_, fun k_ hk hkB hkr => ?_, HG.out.2.2, ?_⟩
   ·exact (blk_set HX.out 0 _).trans (by simp)
   ·rw [HE.out]; exact Kd.R_far (p := ⟨B, 0, none⟩) HG.out.1 (fun k_ hk => hk) _
   ·have := HG.out.2.1.size; simp; omega
   ·exact (Below.heap_setCell _ ⟨B, 0, none⟩ _ _ hkB).trans (HG.out.2.1.block k_ hk hkr)
   ·exact (HBB.out.mono (Nat.le_of_lt HW.out.lt)).setCell (p := ⟨B, 0, none⟩) (Nat.le_refl _) _
theorem meta_at {x : Tm} {A : Option Addr} {c : Nat} {W : World} (h : MetaOk x) (hl : lies W A x.f3) (hc : x.f3.length ≤ c) :
  Calls Tryd.prog 36 #[.agg #[.int .i64 x.f0, .string x.f1, .int .i64 x.f2, .slice A x.f3.length c]] W fun e W' => ∃ v0 : Value, e = .returned v0 ∧ Kd.R (Kd.int .i64) 3 W' W.heap.size (fun _ => True) v0 (metaL x) ∧ Below W.heap.size W W' := by
 obtain ⟨k, hk⟩ := (wf_ev h.o).rounds
 refine term_Metas.calls k x.f0 x.f1 x.f2 A c x.f3 _ W hl hc ?_
 unfold term_Metas.f
 rw [hk, Option.bind_some, tm_eta, okN_fit h.o, h.f, h.w]
 rfl
theorem nums_loop (L : List Int) (hL : L.length ≤ 1000000) : ∀ (c j : Nat), j + c = L.length → Ev (fun k => f5_sameNumbers.l0 k L L (j : Int)) true := by
 intro c
 induction c with
 | zero =>
  intro j hj
  refine Ev.up ?_
  simp only [f5_sameNumbers.l0]
  refine Ev.neg (by omega) ?_
  exact Ev.now _
 | succ c ih =>
  intro j hj
  refine Ev.up ?_
  simp only [f5_sameNumbers.l0]
  refine Ev.pos (by omega) (Ev.pos (by omega) (Ev.pos (by omega) (Ev.pos trivial ?_)))
  rw [show wrap64 ((j : Int) + 1) = ((j + 1 : Nat) : Int) by rw [w64_in (by omega) (by omega)]; omega]
  exact ih (j + 1) (by omega)
theorem nums_same (L : List Int) (hL : L.length ≤ 1000000) : ∃ k, f5_sameNumbers.f k L L = some true := by
 obtain ⟨k, hk⟩ := (nums_loop L hL L.length 0 (by omega)).rounds
 refine ⟨k, ?_⟩
 unfold f5_sameNumbers.f
 rw [if_pos rfl]
 exact hk
structure Mt (w Wb : World) (n B : Nat) (t : Tm) (A : Option Addr) (c : Nat) (v : Value) (L : List Int) (W : World) : Prop where
 eB : Wb.heap.size = B
 bt : Wb.heap[n]? = some (.cells #[.int .i64 t.f0, .string t.f1, .int .i64 t.f2, .slice A t.f3.length c] 25 (0, 0))
 li : lies Wb A t.f3
 le : t.f3.length ≤ c
 bw : Below w.heap.size w Wb
 hb : Below B Wb W
 sz : B + 1 ≤ W.heap.size
 wa : Want W B (B + 1) v L
section
variable {w Wb W W' : World} {n B : Nat} {t : Tm} {A : Option Addr} {c : Nat} {v v' : Value} {L L' : List Int}
theorem Mt.bb (h : Mt w Wb n B t A c v L W) : Below Wb.heap.size Wb W := by rw [h.eB]; exact h.hb
theorem Mt.tm (h : Mt w Wb n B t A c v L W) : W.heap[n]? = some (.cells #[.int .i64 t.f0, .string t.f1, .int .i64 t.f2, .slice A t.f3.length c] 25 (0, 0)) := (h.bb.block n (blk_lt h.bt)).trans h.bt
theorem Mt.la (h : Mt w Wb n B t A c v L W) : lies W A t.f3 := Kd.C_below h.li h.bb
theorem Mt.be (h : Mt w Wb n B t A c v L W) : Below w.heap.size w W := below_trans h.bw h.bb
theorem Want.below {base : Nat} (h : Want W B base v L) (hb : Below W.heap.size W W') : Want W' B base v L :=
 ⟨(hb.block _ (blk_lt h.bx)).trans h.bx, Kd.R_below h.ro hb, h.lt⟩
theorem Mt.below (h : Mt w Wb n B t A c v L W) (hb : Below W.heap.size W W') : Mt w Wb n B t A c v L W' :=
 ⟨h.eB, h.bt, h.li, h.le, h.bw, h.hb.trans (hb.mono (Nat.le_trans (Nat.le_succ B) h.sz)), Nat.le_trans h.sz hb.size, h.wa.below hb⟩
theorem Mt.drawn (h : Mt w Wb n B t A c v L W) (hd : Drawn0 W W') : Mt w Wb n B t A c v L W' := by
 obtain ⟨k, rfl⟩ := hd.out
 exact h.below (yG (Below.refl _ _) k)
theorem Mt.ro {Av : Option Addr} {cv : Nat} (h : Mt w Wb n B t A c (.slice Av L.length cv) L W) : L.length ≤ cv ∧ Kd.C (Kd.int .i64) W Av L.length L := (Kd.R_reads' h.wa.ro).2
abbrev MtS (w Wb : World) (n B : Nat) (t : Tm) (A : Option Addr) (c : Nat) (Av : Option Addr) (cv : Nat) (L : List Int) (W' : World) : Prop :=
 W'.cell? ⟨n, 0, none⟩ = some (.int .i64 t.f0) ∧ W'.cell? ⟨n, 1, none⟩ = some (.string t.f1) ∧ W'.cell? ⟨n, 2, none⟩ = some (.int .i64 t.f2) ∧ W'.cell? ⟨n, 3, none⟩ = some (.slice A t.f3.length c) ∧ W'.cell? ⟨B, 0, none⟩ = some (.slice Av L.length cv) ∧ Hid (Mt w Wb n B t A c (.slice Av L.length cv) L W')
theorem Mt.S {Av : Option Addr} {cv : Nat} (h : Mt w Wb n B t A c (.slice Av L.length cv) L W) : MtS w Wb n B t A c Av cv L W :=
 ⟨(yE h.tm 0).trans rfl, (yE h.tm 1).trans rfl, (yE h.tm 2).trans rfl, (yE h.tm 3).trans rfl, (yE h.wa.bx 0).trans rfl, Lib.hid h⟩
theorem meta_at2 {Av : Option Addr} {cv : Nat} (hm : MetaOk t) (h : MtS w Wb n B t A c Av cv L W) :
  Calls Tryd.prog 36 #[.agg #[.int .i64 t.f0, .string t.f1, .int .i64 t.f2, .slice A t.f3.length c]] W fun e W' => ∃ (Am : Option Addr) (cm : Nat), e = .returned (.slice Am (metaL t).length cm) ∧ Mt w Wb n B t A c (.slice Av L.length cv) L W' ∧ ((metaL t).length ≤ cm ∧ Kd.C (Kd.int .i64) W' Am (metaL t).length (metaL t)) := by
 have hh := h.2.2.2.2.2.out
 refine (meta_at hm hh.la hh.le).mono ?_
 rintro e W3 ⟨vm, rfl, ho, hB⟩
 obtain ⟨Am, cm, rfl⟩ := Kd.R_slice ho
 exact ⟨Am, cm, rfl, hh.below hB, (Kd.R_reads' ho).2⟩
theorem Mt.after {e : Ending} (h : Mt w Wb n B t A c v L W) (hp : AddPost W B (B + 1) v L' e W') : ∃ v', e = .returned (.tuple #[]) ∧ Mt w Wb n B t A c v' L' W' ∧ (v'.ownBlock = v.ownBlock ∨ ∃ b, v'.ownBlock = some b ∧ W.heap.size ≤ b) ∧ (∀ k, k < W.heap.size → k ≠ B → some k ≠ v.ownBlock → W'.heap[k]? = W.heap[k]?) := by
 obtain ⟨v', rfl, hw, hs, hk, ho, hB⟩ := hp
 exact ⟨v', rfl, ⟨h.eB, h.bt, h.li, h.le, h.bw, h.hb.trans hB, Nat.le_trans h.sz hs, hw⟩, ho, hk⟩
theorem Mt.new {W1 : World} (hl : lies W1 A t.f3) (hc : t.f3.length ≤ c) (hb : Below w.heap.size w W1) : Mt w (W1.alloc (.cells #[.int .i64 t.f0, .string t.f1, .int .i64 t.f2, .slice A t.f3.length c] 25)) W1.heap.size (W1.heap.size + 1) t A c (.slice none 0 0) [] ((W1.alloc (.cells #[.int .i64 t.f0, .string t.f1, .int .i64 t.f2, .slice A t.f3.length c] 25)).alloc (.cells #[.slice none 0 0] 22)) := by
 have e : (W1.alloc (.cells #[.int .i64 t.f0, .string t.f1, .int .i64 t.f2, .slice A t.f3.length c] 25)).heap.size = W1.heap.size + 1 := World.size_alloc _ _
 refine ⟨e, World.alloc_heap_new _ _, Kd.C_alloc hl _, hc, yF hb _, ?_, by simp, ?_, Kd.R_nil _ _ _ _ _, Nat.lt_succ_self _⟩
 ·rw [← e]; exact yF (Below.refl _ _) _
 ·rw [← e]; exact World.alloc_heap_new _ _
theorem add_at (h : Mt w Wb n B t A c v L W) (x : Int) (hL : L.length ≤ 1000000) (hx : Hid (addO L x = L')) :
  Calls Tryd.prog 46 #[.int .i64 x, .pointer (some ⟨B, 0, none⟩)] W fun e W' => ∃ v', e = .returned (.tuple #[]) ∧ Hid (Mt w Wb n B t A c v' L' W' ∧ (v'.ownBlock = v.ownBlock ∨ ∃ b, v'.ownBlock = some b ∧ W.heap.size ≤ b) ∧ (∀ k, k < W.heap.size → k ≠ B → some k ≠ v.ownBlock → W'.heap[k]? = W.heap[k]?)) := by
 refine (add_any B (B + 1) v L x W h.wa h.sz hL).mono ?_
 intro e W' hp
 rw [hx.out] at hp
 obtain ⟨v', he, hm⟩ := h.after hp
 exact ⟨v', he, Lib.hid hm⟩
abbrev Ms (B : Nat) (v : Value) (b : Nat) (vm : Value) (ms : List Int) (W : World) : Prop := Kd.R (Kd.int .i64) 3 W b (fun k_ => k_ ≠ B ∧ some k_ ≠ v.ownBlock) vm ms
theorem Ms.new {W3 : World} {vm : Value} {ms : List Int} (h : Mt w Wb n B t A c v L W) (hr : Kd.R (Kd.int .i64) 3 W3 W.heap.size (fun _ => True) vm ms) (hb : Below W.heap.size W W3) : Ms B v W.heap.size vm ms W3 := by
 have h1 := Kd.R_newR hr h.wa.ro
 exact Kd.R_mono (Kd.R_bound h1) (fun k_ hk => ⟨by have := hk.2.1; have := h.sz; omega, hk.1.2⟩)
theorem Ms.after {b : Nat} {vm : Value} {ms : List Int} (hr : Ms B v b vm ms W) (hk : ∀ k, k < W.heap.size → k ≠ B → some k ≠ v.ownBlock → W'.heap[k]? = W.heap[k]?) (ho : v'.ownBlock = v.ownBlock ∨ ∃ b, v'.ownBlock = some b ∧ W.heap.size ≤ b) : Ms B v' b vm ms W' := by
 have h1 := Kd.R_step (w1 := W') (Kd.R_bound hr) (fun k_ h2 h3 => hk k_ h3 h2.1.1 h2.1.2)
 refine Kd.R_mono h1 (fun k_ h2 => ⟨h2.1.1, ?_⟩)
 rcases ho with ho | ⟨b', ho, hle⟩
 ·rw [ho]; exact h2.1.2
 ·rw [ho]; intro e; injection e with e; have := h2.2.2.1; omega
end
attribute [local go_sem] Oper.semAt_some
set_option maxRecDepth 100000 in
set_option maxHeartbeats 8000000 in
theorem TermMetas_all (w : World) (hN : NamesLaid w) (A0 : Option Addr) (c0 : Nat) (l0 : List Int) (hr0 : Kd.C (Kd.int .i64) w A0 l0.length l0) (hc0 : l0.length ≤ c0) (hl0 : l0.length ≤ 4611686018427387904) :
  Calls Tryd.prog 7 #[.slice A0 l0.length c0] w fun e w' => e = .returned (.bool true) ∧ Below w.heap.size w w' := by
 obtain ⟨t, j, he, ht, _, _⟩ := tm_some l0 hl0 4 4 2 5 (by omega) (by omega) (by omega) (by omega) (by omega) (by omega) 0 (by omega) (by omega)
 have HT := Lib.hid (meta_ok ht (by omega) (by omega) (by omega) (by omega))
 have HA : Hid (∀ (k : Nat) (x : Tm), t.f3[k]? = some x → MetaOk x) := Lib.hid (fun k x hx => by
  have hm := List.mem_of_getElem? hx
  rcases mt_args ht x hm with ⟨_, h⟩ | h
  ·exact meta_ok h (by omega) (by omega) (by omega) (by omega)
  ·exact meta_ok h (by omega) (by omega) (by omega) (by omega))
 have HLen : Hid (t.f3.length ≤ 1000 ∧ nT t ≤ 1000) := Lib.hid (by
  have hs := mt_size ht 4 (by omega)
  have h1 := nTs_len t.f3
  rw [nT_eq] at hs ⊢
  simp at hs
  omega)
 have HWl : Hid (∀ k, k ≤ t.f3.length → (wantA t k).length ≤ 2000) := Lib.hid (fun k hk => by
  unfold wantA
  have h1 := foldO_len (idsL (t.f3.take k)) (if t.f0 = 6 then [t.f2] else [])
  have h2 := idsL_len (t.f3.take k)
  have h3 := nTs_take k t.f3
  have h4 := HLen.out.2
  rw [nT_eq] at h4
  have h5 : (if t.f0 = 6 then [t.f2] else ([] : List Int)).length ≤ 1 := by split <;> simp
  omega)
 obtain ⟨k, hk⟩ := he.rounds
 have HK : Hid (fm_TermL.f k l0 4 2 5 = some (t.f0, t.f1, t.f2, t.f3)) := Lib.hid (by unfold fm_TermL.f; rw [hk]; rfl)
 have HR := Lib.hid hr0
 have HC := Lib.hid hc0
 have HNL := Lib.hid hN
 have hlen3 : t.f3.length ≤ 1000 := HLen.out.1
 clear he ht hk hr0 hc0 hl0 hN
 by_cases h6 : t.f0 = 6
 ·have h6b : (t.f0 == 6) = true := beq_iff_eq.mpr h6
  have HW0 : Hid (addO [] t.f2 = wantA t 0) := Lib.hid (by rw [wantA_zero, if_pos h6]; rfl)
  clear h6
  go_enter Tryd.func7, Tryd.ntmps7
  go_wp2_with (first
   | (go_at_call 45; (with_reducible refine (fm_TermL.calls k A0 c0 l0 4 2 5 t.f0 t.f1 t.f2 t.f3 _ HR.out HC.out HK.out HNL.out).mono ?_); rintro e W1 ⟨v3, rfl, hn3, hB1⟩; obtain ⟨A, c, rfl⟩ := Kd.N_slice hn3; have HL := Lib.hid (Kd.N_reads' hn3).2; have HB1 := Lib.hid hB1; have hz : w.heap.size ≤ W1.heap.size := hB1.size; clear hn3 hB1))
  have HM0 := Lib.hid (Mt.new (w := w) HL.out.2 HL.out.1 HB1.out)
  generalize W1.alloc (.cells #[.int .i64 t.f0, .string t.f1, .int .i64 t.f2, .slice A t.f3.length c] 25) = Wb at HM0 ⊢
  generalize Wb.alloc (.cells #[.slice none 0 0] 22) = W0 at HM0 ⊢
  clear HL HB1 hz HK HNL HR HC
  refine (add_at HM0.out t.f2 (by simp) HW0).mono ?_
  rintro e W ⟨v, rfl, HM1⟩
  have HM := Lib.hid HM1.out.1
  clear HM0 HM1 HW0
  have g0 : W.cell? ⟨W1.heap.size, 3, none⟩ = some (.slice A t.f3.length c) := (yE HM.out.tm 3).trans rfl
  go_wp2_with fail
  go_loopw [6] (fun v6 wr => ∃ (k : Nat) (v : Value), k ≤ t.f3.length ∧ v6 = .int .i64 k ∧ Hid (Mt w Wb W1.heap.size (W1.heap.size + 1) t A c v (wantA t k) wr)) (fun v6 _ => t.f3.length - (intOf v6).toNat)
  case atStart => exact ⟨0, _, Nat.zero_le _, rfl, HM⟩
  case round =>
   obtain ⟨k, v, hk, rfl, HMk⟩ := hrel
   clear HM
   have g0 : wr.cell? ⟨W1.heap.size, 3, none⟩ = some (.slice A t.f3.length c) := (yE HMk.out.tm 3).trans rfl
   by_cases hlt : k < t.f3.length
   ·obtain ⟨x, ad, A3, c3, hx, ea, h0, h1, h2, h3, hl, hg⟩ := elem_at HMk.out.la k hlt
    subst ea
    have HX : Hid (MetaOk x) := Lib.hid (HA.out k x hx)
    have HXL := Lib.hid (And.intro hl hg)
    have HS : Hid ((metaL x).foldl addO (wantA t k) = wantA t (k + 1)) := Lib.hid (by rw [wantA_succ t k hlt]; rw [List.getElem?_eq_getElem hlt] at hx; injection hx with hx; rw [hx])
    have hml : (metaL x).length ≤ 1000000 := Nat.le_trans (metaL_len x) HX.out.o
    clear hx hl hg
    go_wp2_with (go_at_call 36; (with_reducible refine (meta_at HX.out HXL.out.2 HXL.out.1).mono ?_); rintro e W3 ⟨vm, rfl, ho, hB⟩; obtain ⟨Am, cm, rfl⟩ := Kd.R_slice ho; have HMs := Lib.hid (Ms.new HMk.out ho hB); have HM3 := Lib.hid (HMk.out.below hB); clear ho hB)
    obtain ⟨bm, hbm⟩ : ∃ b, b = wr.heap.size := ⟨_, rfl⟩
    rw [← hbm] at HMs
    clear hbm
    go_loopw [8] (fun v8 wi => ∃ (q : Nat) (v : Value), q ≤ (metaL x).length ∧ v8 = .int .i64 q ∧ Hid (Mt w Wb W1.heap.size (W1.heap.size + 1) t (some ad) c v (((metaL x).take q).foldl addO (wantA t k)) wi) ∧ Hid (Ms (W1.heap.size + 1) v bm (.slice Am (metaL x).length cm) (metaL x) wi)) (fun v8 _ => (metaL x).length - (intOf v8).toNat)
    case atStart => exact ⟨0, _, Nat.zero_le _, rfl, HM3, HMs⟩
    case round =>
     obtain ⟨q, v, hq, rfl, HMq, HMr⟩ := hrel
     clear HM3 HMs
     by_cases hqt : q < (metaL x).length
     ·obtain ⟨am, ea, hcm⟩ := Kd.at_int (Kd.R_reads' HMr.out).2.2 (q : Int) (by omega) (by omega)
      subst ea
      rw [Int.toNat_natCast] at hcm
      have HQ : Hid (addO (((metaL x).take q).foldl addO (wantA t k)) (rd (metaL x) (q : Int)) = ((metaL x).take (q + 1)).foldl addO (wantA t k)) := Lib.hid (by
       rw [List.take_succ_eq_append_getElem hqt, List.foldl_append]
       simp only [List.foldl_cons, List.foldl_nil]
       congr 1
       unfold rd
       rw [Int.toNat_natCast, List.getD_eq_getElem?_getD, List.getElem?_eq_getElem hqt]; rfl)
      have hLq : (((metaL x).take q).foldl addO (wantA t k)).length ≤ 1000000 := by
       have h1 := foldO_len ((metaL x).take q) (wantA t k)
       have h2 := HWl.out k hk
       have h3 := List.length_take_le q (metaL x)
       have h4 := metaL_len x
       have h5 := HX.out.n
       omega
      have HLq := Lib.hid hLq
      clear hLq
      go_wp2_with (go_at_call 46; (with_reducible refine (add_at HMq.out _ HLq.out HQ).mono ?_); rintro e W4 ⟨v4, rfl, HM4⟩; have HM5 := Lib.hid HM4.out.1; have HM6 := Lib.hid (Ms.after HMr.out HM4.out.2.2 HM4.out.2.1); clear HM4)
      go_roundw
      case rel => exact ⟨q + 1, v4, by omega, by go_num, HM5, HM6⟩
      case measure => simp [intOf]; omega
     ·have hqe : q = (metaL x).length := by omega
      have HM7 : Hid (Mt w Wb W1.heap.size (W1.heap.size + 1) t (some ad) c v (wantA t (k + 1)) wr) := Lib.hid (by rw [← HS.out]; have := HMq.out; rw [hqe, List.take_length] at this; exact this)
      clear HMq HMr hqe
      go_wp2_with fail
      go_roundw
      case rel => exact ⟨k + 1, v, by omega, by go_num, HM7⟩
      case measure => simp [intOf]; omega
   ·have hke : k = t.f3.length := by omega
    have HM7 : Hid (Mt w Wb W1.heap.size (W1.heap.size + 1) t A c v (metaL t) wr) := Lib.hid (by rw [← wantA_all t, ← hke]; exact HMk.out)
    clear HMk hke
    obtain ⟨Av, cv, rfl⟩ := Kd.R_slice HM7.out.wa.ro
    obtain ⟨kn, hkn⟩ := nums_same (metaL t) (by have h1 := metaL_len t; have h2 := HLen.out.2; omega)
    have HKN := Lib.hid hkn
    clear hkn
    obtain ⟨s0, s1, s2, s3, s4, _⟩ := HM7.out.S
    go_wp2_with fail
    go_region_held3 (fun W' => W'.cell? ⟨W1.heap.size, 0, none⟩ = some (.int .i64 t.f0) ∧ W'.cell? ⟨W1.heap.size, 1, none⟩ = some (.string t.f1) ∧ W'.cell? ⟨W1.heap.size, 2, none⟩ = some (.int .i64 t.f2) ∧ W'.cell? ⟨W1.heap.size, 3, none⟩ = some (.slice A t.f3.length c) ∧ W'.cell? ⟨W1.heap.size + 1, 0, none⟩ = some (.slice Av (metaL t).length cv) ∧ Hid (Mt w Wb W1.heap.size (W1.heap.size + 1) t A c (.slice Av (metaL t).length cv) (metaL t) W')) (first | exact Mt.S (Hid.out (by assumption)) | exact Mt.S (Mt.below HM7.out (below_drew (Below.refl _ _))))
     (first
      | (go_at_call 36; (with_reducible refine (meta_at2 HT.out (by assumption)).mono ?_); rintro e W3 ⟨Am, cm, rfl, hT, hrm⟩; have HTn := Lib.hid hT; have HRm := Lib.hid hrm; clear hT hrm)
      | (go_at_call 35; (with_reducible refine (f5_sameNumbers.calls kn _ _ (metaL t) _ _ (metaL t) true _ HRm.out.2 HRm.out.1 HTn.out.ro.2 HTn.out.ro.1 HKN.out).mono ?_); rintro e W4 ⟨rfl, hd⟩; have HTm := Lib.hid (HTn.out.drawn hd); clear hd)
      | (go_at_call 41; (with_reducible refine (f5_awake.calls true _ rfl).mono ?_); rintro e W5 ⟨rfl, hB⟩; have HTf := Lib.hid (HTm.out.below hB); clear hB))
    go_wp2_with fail
    go_ret
    exact ⟨rfl, HTf.out.be⟩
 ·have h6b : (t.f0 == 6) = false := beq_eq_false_iff_ne.mpr h6
  have HW0 : Hid (([] : List Int) = wantA t 0) := Lib.hid (by rw [wantA_zero, if_neg h6])
  clear h6
  go_enter Tryd.func7, Tryd.ntmps7
  go_wp2_with (first
   | (go_at_call 45; (with_reducible refine (fm_TermL.calls k A0 c0 l0 4 2 5 t.f0 t.f1 t.f2 t.f3 _ HR.out HC.out HK.out HNL.out).mono ?_); rintro e W1 ⟨v3, rfl, hn3, hB1⟩; obtain ⟨A, c, rfl⟩ := Kd.N_slice hn3; have HL := Lib.hid (Kd.N_reads' hn3).2; have HB1 := Lib.hid hB1; have hz : w.heap.size ≤ W1.heap.size := hB1.size; clear hn3 hB1))
  have HM0 := Lib.hid (Mt.new (w := w) HL.out.2 HL.out.1 HB1.out)
  generalize W1.alloc (.cells #[.int .i64 t.f0, .string t.f1, .int .i64 t.f2, .slice A t.f3.length c] 25) = Wb at HM0 ⊢
  generalize Wb.alloc (.cells #[.slice none 0 0] 22) = W0 at HM0 ⊢
  clear HL HB1 hz HK HNL HR HC
  have HM : Hid (Mt w Wb W1.heap.size (W1.heap.size + 1) t A c (.slice none 0 0) (wantA t 0) W0) := Lib.hid (by rw [← HW0.out]; exact HM0.out)
  clear HM0 HW0
  have g0 : W0.cell? ⟨W1.heap.size, 3, none⟩ = some (.slice A t.f3.length c) := (yE HM.out.tm 3).trans rfl
  go_wp2_with fail
  go_loopw [6] (fun v6 wr => ∃ (k : Nat) (v : Value), k ≤ t.f3.length ∧ v6 = .int .i64 k ∧ Hid (Mt w Wb W1.heap.size (W1.heap.size + 1) t A c v (wantA t k) wr)) (fun v6 _ => t.f3.length - (intOf v6).toNat)
  case atStart => exact ⟨0, _, Nat.zero_le _, rfl, HM⟩
  case round =>
   obtain ⟨k, v, hk, rfl, HMk⟩ := hrel
   clear HM
   have g0 : wr.cell? ⟨W1.heap.size, 3, none⟩ = some (.slice A t.f3.length c) := (yE HMk.out.tm 3).trans rfl
   by_cases hlt : k < t.f3.length
   ·obtain ⟨x, ad, A3, c3, hx, ea, h0, h1, h2, h3, hl, hg⟩ := elem_at HMk.out.la k hlt
    subst ea
    have HX : Hid (MetaOk x) := Lib.hid (HA.out k x hx)
    have HXL := Lib.hid (And.intro hl hg)
    have HS : Hid ((metaL x).foldl addO (wantA t k) = wantA t (k + 1)) := Lib.hid (by rw [wantA_succ t k hlt]; rw [List.getElem?_eq_getElem hlt] at hx; injection hx with hx; rw [hx])
    have hml : (metaL x).length ≤ 1000000 := Nat.le_trans (metaL_len x) HX.out.o
    clear hx hl hg
    go_wp2_with (go_at_call 36; (with_reducible refine (meta_at HX.out HXL.out.2 HXL.out.1).mono ?_); rintro e W3 ⟨vm, rfl, ho, hB⟩; obtain ⟨Am, cm, rfl⟩ := Kd.R_slice ho; have HMs := Lib.hid (Ms.new HMk.out ho hB); have HM3 := Lib.hid (HMk.out.below hB); clear ho hB)
    obtain ⟨bm, hbm⟩ : ∃ b, b = wr.heap.size := ⟨_, rfl⟩
    rw [← hbm] at HMs
    clear hbm
    go_loopw [8] (fun v8 wi => ∃ (q : Nat) (v : Value), q ≤ (metaL x).length ∧ v8 = .int .i64 q ∧ Hid (Mt w Wb W1.heap.size (W1.heap.size + 1) t (some ad) c v (((metaL x).take q).foldl addO (wantA t k)) wi) ∧ Hid (Ms (W1.heap.size + 1) v bm (.slice Am (metaL x).length cm) (metaL x) wi)) (fun v8 _ => (metaL x).length - (intOf v8).toNat)
    case atStart => exact ⟨0, _, Nat.zero_le _, rfl, HM3, HMs⟩
    case round =>
     obtain ⟨q, v, hq, rfl, HMq, HMr⟩ := hrel
     clear HM3 HMs
     by_cases hqt : q < (metaL x).length
     ·obtain ⟨am, ea, hcm⟩ := Kd.at_int (Kd.R_reads' HMr.out).2.2 (q : Int) (by omega) (by omega)
      subst ea
      rw [Int.toNat_natCast] at hcm
      have HQ : Hid (addO (((metaL x).take q).foldl addO (wantA t k)) (rd (metaL x) (q : Int)) = ((metaL x).take (q + 1)).foldl addO (wantA t k)) := Lib.hid (by
       rw [List.take_succ_eq_append_getElem hqt, List.foldl_append]
       simp only [List.foldl_cons, List.foldl_nil]
       congr 1
       unfold rd
       rw [Int.toNat_natCast, List.getD_eq_getElem?_getD, List.getElem?_eq_getElem hqt]; rfl)
      have hLq : (((metaL x).take q).foldl addO (wantA t k)).length ≤ 1000000 := by
       have h1 := foldO_len ((metaL x).take q) (wantA t k)
       have h2 := HWl.out k hk
       have h3 := List.length_take_le q (metaL x)
       have h4 := metaL_len x
       have h5 := HX.out.n
       omega
      have HLq := Lib.hid hLq
      clear hLq
      go_wp2_with (go_at_call 46; (with_reducible refine (add_at HMq.out _ HLq.out HQ).mono ?_); rintro e W4 ⟨v4, rfl, HM4⟩; have HM5 := Lib.hid HM4.out.1; have HM6 := Lib.hid (Ms.after HMr.out HM4.out.2.2 HM4.out.2.1); clear HM4)
      go_roundw
      case rel => exact ⟨q + 1, v4, by omega, by go_num, HM5, HM6⟩
      case measure => simp [intOf]; omega
     ·have hqe : q = (metaL x).length := by omega
      have HM7 : Hid (Mt w Wb W1.heap.size (W1.heap.size + 1) t (some ad) c v (wantA t (k + 1)) wr) := Lib.hid (by rw [← HS.out]; have := HMq.out; rw [hqe, List.take_length] at this; exact this)
      clear HMq HMr hqe
      go_wp2_with fail
      go_roundw
      case rel => exact ⟨k + 1, v, by omega, by go_num, HM7⟩
      case measure => simp [intOf]; omega
   ·have hke : k = t.f3.length := by omega
    have HM7 : Hid (Mt w Wb W1.heap.size (W1.heap.size + 1) t A c v (metaL t) wr) := Lib.hid (by rw [← wantA_all t, ← hke]; exact HMk.out)
    clear HMk hke
    obtain ⟨Av, cv, rfl⟩ := Kd.R_slice HM7.out.wa.ro
    obtain ⟨kn, hkn⟩ := nums_same (metaL t) (by have h1 := metaL_len t; have h2 := HLen.out.2; omega)
    have HKN := Lib.hid hkn
    clear hkn
    obtain ⟨s0, s1, s2, s3, s4, _⟩ := HM7.out.S
    go_wp2_with fail
    go_region_held3 (fun W' => W'.cell? ⟨W1.heap.size, 0, none⟩ = some (.int .i64 t.f0) ∧ W'.cell? ⟨W1.heap.size, 1, none⟩ = some (.string t.f1) ∧ W'.cell? ⟨W1.heap.size, 2, none⟩ = some (.int .i64 t.f2) ∧ W'.cell? ⟨W1.heap.size, 3, none⟩ = some (.slice A t.f3.length c) ∧ W'.cell? ⟨W1.heap.size + 1, 0, none⟩ = some (.slice Av (metaL t).length cv) ∧ Hid (Mt w Wb W1.heap.size (W1.heap.size + 1) t A c (.slice Av (metaL t).length cv) (metaL t) W')) (first | exact Mt.S (Hid.out (by assumption)) | exact Mt.S (Mt.below HM7.out (below_drew (Below.refl _ _))))
     (first
      | (go_at_call 36; (with_reducible refine (meta_at2 HT.out (by assumption)).mono ?_); rintro e W3 ⟨Am, cm, rfl, hT, hrm⟩; have HTn := Lib.hid hT; have HRm := Lib.hid hrm; clear hT hrm)
      | (go_at_call 35; (with_reducible refine (f5_sameNumbers.calls kn _ _ (metaL t) _ _ (metaL t) true _ HRm.out.2 HRm.out.1 HTn.out.ro.2 HTn.out.ro.1 HKN.out).mono ?_); rintro e W4 ⟨rfl, hd⟩; have HTm := Lib.hid (HTn.out.drawn hd); clear hd)
      | (go_at_call 41; (with_reducible refine (f5_awake.calls true _ rfl).mono ?_); rintro e W5 ⟨rfl, hB⟩; have HTf := Lib.hid (HTm.out.below hB); clear hB))
    go_wp2_with fail
    go_ret
    exact ⟨rfl, HTf.out.be⟩
end Go.Proofs.YtpkkoiljombooaaDoor.G
