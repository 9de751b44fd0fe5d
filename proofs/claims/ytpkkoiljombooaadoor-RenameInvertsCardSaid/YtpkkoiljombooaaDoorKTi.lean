import Derived.Test.YtpkkoiljombooaaDoorKG0
import Derived.Test.YtpkkoiljombooaaDoorKTl
import Derived.Test.YtpkkoiljombooaaDoorKRx
import Derived.WalkKit
import Derived.KernelRfl
import Derived.Deep.RegionHeld3
import Derived.IntWalk
import Derived.BigRegion
import Derived.Deep.Cut
import Derived.Deep.DeepCutAuto
import Derived.Test.YtpkkoiljombooaaDoorKWMore
set_option linter.unusedVariables false
set_option linter.unusedSimpArgs false
namespace Go.Proofs.YtpkkoiljombooaaDoor.G
open Go.RowKit Go.Proofs.YtpkkoiljombooaaDoorW.PrintWords Go.Proofs.YtpkkoiljombooaaDoorW.PrintLast Go.Proofs.YtpkkoiljombooaaDoorW.PrintMore
structure Si (w : World) (n m : Nat) (t : Tm) (A : Option Addr) (c : Nat) (q : List Int) (W : World) : Prop where
 t : TFx n t A c W
 r : Kd.F (Kd.int .i64) W (fun k => k < m) (some ⟨n + 1, 0, none⟩) q.length q
 be : Below w.heap.size w W
 nm : n < m
 wm : w.heap.size ≤ m
abbrev SiS (w : World) (n m : Nat) (t : Tm) (A : Option Addr) (c : Nat) (q : List Int) (W' : World) : Prop :=
 W'.cell? ⟨n, 0, none⟩ = some (.int .i64 t.f0) ∧ W'.cell? ⟨n, 1, none⟩ = some (.string t.f1) ∧ W'.cell? ⟨n, 2, none⟩ = some (.int .i64 t.f2) ∧ W'.cell? ⟨n, 3, none⟩ = some (.slice A t.f3.length c) ∧ Hid (Si w n m t A c q W')
theorem zcells {W : World} {g : Nat} {a0 a1 a2 a3 : Value} {e : Nat} (h : W.heap[g]? = some (.cells #[a0, a1, a2, a3] e (0, 0))) :
  (W.cell? ⟨g, 0, none⟩ = some a0 ∧ W.cell? ⟨g, 1, none⟩ = some a1 ∧ W.cell? ⟨g, 2, none⟩ = some a2 ∧ W.cell? ⟨g, 3, none⟩ = some a3) ∧ (W.frozen? ⟨g, 0, none⟩ = false ∧ W.frozen? ⟨g, 1, none⟩ = false ∧ W.frozen? ⟨g, 2, none⟩ = false ∧ W.frozen? ⟨g, 3, none⟩ = false) ∧ g < W.heap.size :=
 ⟨⟨(yE h 0).trans rfl, (yE h 1).trans rfl, (yE h 2).trans rfl, (yE h 3).trans rfl⟩, ⟨yD h 0, yD h 1, yD h 2, yD h 3⟩, blk_lt h⟩
theorem tbx_put {W : World} {g : Nat} {a0 a1 a2 a3 : Value} {x : Tm} {A : Option Addr} {c : Nat} {ok : Nat → Prop} (h : W.heap[g]? = some (.cells #[a0, a1, a2, a3] 25 (0, 0))) (hl : Kd.F k25 W ok A x.f3.length x.f3 ∧ x.f3.length ≤ c) (hok : ∀ k, ok k → k ≠ g) :
  TBx g x A c ((((W.setCell ⟨g, 0, none⟩ (.int .i64 x.f0)).setCell ⟨g, 1, none⟩ (.string x.f1)).setCell ⟨g, 2, none⟩ (.int .i64 x.f2)).setCell ⟨g, 3, none⟩ (.slice A x.f3.length c)) :=
 ⟨(blk_set (blk_set (blk_set (blk_set h 0 _) 1 _) 2 _) 3 _).trans rfl, Kd.F_now (Kd.F_far (Kd.F_far (Kd.F_far (Kd.F_far hl.1 hok _) hok _) hok _) hok _), hl.2⟩
section
variable {w W W' : World} {n m : Nat} {t : Tm} {A : Option Addr} {c : Nat} {q : List Int}
theorem Si.S (h : Si w n m t A c q W) : SiS w n m t A c q W := ⟨h.t.tb.cells.1, h.t.tb.cells.2.1, h.t.tb.cells.2.2.1, h.t.tb.cells.2.2.2.1, Lib.hid h⟩
theorem SiS.si (h : SiS w n m t A c q W) : Si w n m t A c q W := h.2.2.2.2.out
theorem Si.below (h : Si w n m t A c q W) (hb : Below W.heap.size W W') : Si w n m t A c q W' := ⟨h.t.below hb, Kd.F_below h.r hb, below_trans h.be hb, h.nm, h.wm⟩
theorem Si.alloc (h : Si w n m t A c q W) (o : Obj) : Si w n m t A c q (W.alloc o) := h.below (yF (Below.refl _ _) o)
theorem Si.drew (h : Si w n m t A c q W) : Si w n m t A c q W.drew := h.below (below_drew (Below.refl _ _))
theorem Si.set (h : Si w n m t A c q W) {p : Addr} (hp : m ≤ p.block) (u : Value) : Si w n m t A c q (W.setCell p u) := ⟨h.t.set (by have := h.nm; omega) u, Kd.F_far h.r (fun k hk => by omega) u, h.be.setCell (by have := h.wm; omega) u, h.nm, h.wm⟩
end
set_option maxRecDepth 100000 in
set_option maxHeartbeats 8000000 in
theorem RenameInverts_all (w : World) (hN : NamesLaid w) (A0 : Option Addr) (c0 : Nat) (l0 : List Int) (hr0 : Kd.C (Kd.int .i64) w A0 l0.length l0) (hc0 : l0.length ≤ c0) (hl0 : l0.length ≤ 4611686018427387904)
  (A1 : Option Addr) (c1 : Nat) (l1 : List Int) (hr1 : Kd.C (Kd.int .i64) w A1 l1.length l1) (hc1 : l1.length ≤ c1) (hl1 : l1.length ≤ 4611686018427387904) :
  Calls Tryd.prog 15 #[.slice A0 l0.length c0, .slice A1 l1.length c1] w fun e w' => e = .returned (.bool true) ∧ Below w.heap.size w w' := by
 obtain ⟨t, j, he, ht, _, _⟩ := any_some l0 hl0 4 5 2 (by omega) (by omega) (by omega) (by omega) (by omega) (by omega) 0 (by omega) (by omega)
 obtain ⟨k, hk⟩ := he.rounds
 have HM := Lib.hid ht
 have HW := Lib.hid (ma_wf ht)
 have HNT := Lib.hid (show okN t by have := (wf_dT HW.out).2; unfold okN; omega)
 have HSTT := Lib.hid (same_refl _ t (Nat.le_refl _))
 have HK : Hid (fm_AnyL.f k l0 4 5 2 = some (t.f0, t.f1, t.f2, t.f3)) := Lib.hid (by unfold fm_AnyL.f; rw [hk]; rfl)
 have HR := Lib.hid hr0
 have HC := Lib.hid hc0
 have HR1 := Lib.hid hr1
 have HL1 := Lib.hid hl1
 have HNL := Lib.hid hN
 clear he ht hk hr0 hc0 hl0 hN hr1 hc1 hl1
 have HBel0 := Lib.hid (Below.refl w.heap.size w)
 go_enter Tryd.func15, Tryd.ntmps15
 go_wp2_with fail
 refine (fm_AnyL.calls k A0 c0 l0 4 5 2 t.f0 t.f1 t.f2 t.f3 _ HR.out HC.out HK.out HNL.out).mono ?_
 rintro e W1 ⟨v3, rfl, hn3, hB⟩
 obtain ⟨At, ct, rfl⟩ := Kd.N_slice hn3
 have HLt := Lib.hid (And.intro (Kd.N_reads' hn3).2.2 (Kd.N_reads' hn3).2.1)
 have HBel1 := Lib.hid (below_trans (by repeat (first | exact HBel0.out | apply yF)) hB)
 clear hn3 hB
 go_wp2_with fail
 have HT2 := Lib.hid ((TFx.new HLt.out.1 HLt.out.2).alloc (.cells #[.int .i64 0, .int .i64 1, .int .i64 2, .int .i64 3, .int .i64 4, .int .i64 5, .int .i64 6] 3))
 have HI2 : Hid (IBx (W1.heap.size + 1) [0, 1, 2, 3, 4, 5, 6] ((W1.alloc (.cells #[.int .i64 t.f0, .string t.f1, .int .i64 t.f2, .slice At t.f3.length ct] 25)).alloc (.cells #[.int .i64 0, .int .i64 1, .int .i64 2, .int .i64 3, .int .i64 4, .int .i64 5, .int .i64 6] 3))) := Lib.hid (new_at _ (by simp))
 have HBel2 := Lib.hid (yF (yF HBel1.out (.cells #[.int .i64 t.f0, .string t.f1, .int .i64 t.f2, .slice At t.f3.length ct] 25)) (.cells #[.int .i64 0, .int .i64 1, .int .i64 2, .int .i64 3, .int .i64 4, .int .i64 5, .int .i64 6] 3))
 have hwn : w.heap.size ≤ W1.heap.size := HBel1.out.size
 generalize W1.heap.size = n at HT2 HI2 hwn ⊢
 go_loopw [7, 8] (fun v7 v8 wr => ∃ (i : Nat) (p : List Int), i ≤ 7 ∧ v7 = .int .i64 i ∧ Hid (Pm p) ∧ Hid (IBx (n + 1) p wr) ∧ Hid (TFx n t At ct wr) ∧ Hid (Below w.heap.size w wr)) (fun v7 v8 _ => 7 - (intOf v7).toNat)
 case atStart => exact ⟨0, _, by omega, rfl, Lib.hid Pm.new, HI2, HT2, HBel2⟩
 case round =>
  obtain ⟨i, p, hi, rfl, HP, HIp, HTp, HBp⟩ := hrel
  have w1 : IntKind.i64.wrap ((i : Int) + 1) = ((i + 1 : Nat) : Int) := by rw [IntKind.wrap_i64]; omega
  by_cases hlt : i < 7
  ·by_cases hm : i < l1.length
   ·obtain ⟨ad, ea, hcm⟩ := Kd.at_int (Kd.C_below HR1.out HBp.out) (i : Int) (by omega) (by omega)
    subst ea
    rw [Int.toNat_natCast] at hcm
    generalize rd l1 (i : Int) = mi at hcm
    obtain ⟨r, hr, hr0, hr1⟩ := cut_some mi (7 - (i : Int)) (by omega) (by omega)
    obtain ⟨k, hk⟩ : ∃ k : Nat, (i : Int) + r = k := ⟨((i : Int) + r).toNat, by omega⟩
    have w2 : IntKind.i64.wrap (7 - (i : Int)) = 7 - (i : Int) := IntWalk.i64_in _ (by omega)
    have w3 : IntKind.i64.wrap ((i : Int) + r) = (k : Int) := by rw [hk]; exact IntWalk.i64_in _ (by omega)
    have hk7 : k < 7 := by omega
    have HCU := Lib.hid hr
    clear hr hr0 hr1 hk
    go_wp2_with fail
    refine (cut_at HCU.out _).mono ?_
    rintro e W2 ⟨rfl, hB⟩
    have HIq := Lib.hid (HIp.out.below hB)
    have HTq := Lib.hid (HTp.out.below hB)
    have HBq := Lib.hid (below_trans HBp.out hB)
    clear hB hcm HIp HTp HBp HCU;have HPk := HP.out.len
    have ck := IBx.cell HIq.out (i := k) (by omega)
    have ci := IBx.cell HIq.out (i := i) (by omega)
    have fk := IBx.frozen HIq.out k
    have fi := IBx.frozen HIq.out i
    have HI2 := Lib.hid ((HIq.out.set i p[k]).set k p[i])
    have HP2 := Lib.hid (HP.out.swap (i := i) (k := k) (by omega) (by omega))
    have cz := IBx.cell (HIq.out.set i p[k]) (i := k) (by rw [List.length_set]; omega)
    have fz := IBx.frozen (HIq.out.set i p[k]) k
    generalize (p.set i p[k])[k]'(by rw [List.length_set]; omega) = pz at cz
    generalize p[k] = pk at ck HI2 HP2 cz fz
    generalize p[i] = pi at ci HI2 HP2
    go_wp2_with fail
    go_region
    go_wp2_with fail
    go_roundw
    case rel => exact ⟨i + 1, _, by omega, by go_num, HP2, Lib.hid HI2.out.drew, Lib.hid ((HTq.out.set (by simp) _).set (by simp) _).drew, Lib.hid (below_drew ((HBq.out.setCell (by simp; omega) _).setCell (by simp; omega) _))⟩
    case measure => simp [intOf]; omega
   ·have HIq := HIp
    have HTq := HTp;have HBq := HBp;clear HIp HTp HBp;have HPk := HP.out.len
    have ck := IBx.cell HIq.out (i := i) (by omega)
    have ci := IBx.cell HIq.out (i := i) (by omega)
    have fk := IBx.frozen HIq.out i
    have fi := IBx.frozen HIq.out i
    have HI2 := Lib.hid ((HIq.out.set i p[i]).set i p[i])
    have HP2 := Lib.hid (HP.out.swap (i := i) (k := i) (by omega) (by omega))
    have cz := IBx.cell (HIq.out.set i p[i]) (i := i) (by rw [List.length_set]; omega)
    have fz := IBx.frozen (HIq.out.set i p[i]) k
    generalize (p.set i p[i])[i]'(by rw [List.length_set]; omega) = pz at cz
    generalize p[i] = pk at ck HI2 HP2 cz fz
    generalize p[i] = pi at ci HI2 HP2
    go_wp2_with fail
    go_region
    go_wp2_with fail
    go_roundw
    case rel => exact ⟨i + 1, _, by omega, by go_num, HP2, Lib.hid HI2.out.drew, Lib.hid ((HTq.out.set (by simp) _).set (by simp) _).drew, Lib.hid (below_drew ((HBq.out.setCell (by simp; omega) _).setCell (by simp; omega) _))⟩
    case measure => simp [intOf]; omega
  ·have hi7 : i = 7 := by omega
   subst hi7
   obtain ⟨u, HU⟩ := inv_ok HM.out HP.out
   have HUO := Lib.hid HU
   clear HU
   obtain ⟨x, hx⟩ : ∃ x, mvT (rnF (p.take 5)) 0 t = x := ⟨_, rfl⟩
   have HX := Lib.hid hx
   have HWX := Lib.hid (show wfE x = 0 from hx ▸ HUO.out.wx)
   have HBK := Lib.hid (show mvT (rnF u) 0 x = t from hx ▸ HUO.out.be)
   have HOB := Lib.hid (show okM (rnF u) 0 x = true from hx ▸ HUO.out.b0)
   have HC5 : Hid (∀ W', Below wr.heap.size wr W' → Kd.C (Kd.int .i64) W' (some ⟨n + 1, 0, none⟩) (p.take 5).length (p.take 5)) := Lib.hid (fun W' hb => Kd.C_take ((HIp.out.below hb).C (by rw [HP.out.len]; omega)) (by rw [HP.out.len]; omega))
   clear hx HIp
   have HQ5 := Lib.hid HUO.out.len
   have HQ7 := Lib.hid HUO.out.ulen
   obtain ⟨q, hq⟩ : ∃ q, p.take 5 = q := ⟨_, rfl⟩
   rw [hq] at HUO HX HC5 HQ5
   clear hq HP
   have HS0 : Hid (Si w n wr.heap.size t At ct q wr) := Lib.hid ⟨HTp.out, Kd.C_F (Kd.heap_int .i64) (HC5.out _ (Below.refl _ _)), HBp.out, blk_lt HTp.out.b, HBp.out.size⟩
   clear HTp HBp HC5
   obtain ⟨g0, g1, g2, g3, _⟩ := HS0.out.S
   go_wp2_with fail
   go_cut [9, 10] (fun v9 v10 W' => ∃ bx Ax cx, v9 = .pointer (some ⟨bx, 0, none⟩) ∧ v10 = .bool true ∧ Hid (Si w n wr.heap.size t At ct q W' ∧ TBx bx x Ax cx W'))
   case first =>
    go_region_held3 (fun W' => W'.cell? ⟨n, 0, none⟩ = some (.int .i64 t.f0) ∧ W'.cell? ⟨n, 1, none⟩ = some (.string t.f1) ∧ W'.cell? ⟨n, 2, none⟩ = some (.int .i64 t.f2) ∧ W'.cell? ⟨n, 3, none⟩ = some (.slice At t.f3.length ct) ∧ Hid (Si w n wr.heap.size t At ct q W')) (first | exact Si.S (Si.drew HS0.out) | exact Si.S (Hid.out (by assumption)) | exact Si.S (Si.alloc (SiS.si (by assumption)) _) | exact Si.S (Si.drew (Si.alloc HS0.out _)) | exact Si.S (Si.alloc HSn.out _) | exact Si.S (((((Si.set HSn.out (Nat.le_refl _) _).set (Nat.le_refl _) _).set (Nat.le_refl _) _).set (Nat.le_refl _) _)))
     (first | (go_at_call 68; go_loud (with_reducible refine (rename_atF q (some ⟨n + 1, 0, none⟩) 7 HQ5.out HUO.out.wt HUO.out.x0 HX.out (Kd.F_now (SiS.si (by assumption)).r) (SiS.si (by assumption)).t.f (fun k hk => Nat.lt_trans hk (blk_lt (SiS.si (by assumption)).t.b)) (SiS.si (by assumption)).t.c).mono ?_); rintro e W3 ⟨v, rfl, Ax, cx, rfl, hl, hB⟩; have HLx := Lib.hid hl; have HSn := Lib.hid (Si.below (SiS.si (by assumption)) hB); have HBx := Lib.hid hB; (try have HZ := Lib.hid (blk_below (show (wr.alloc (.cells #[.int .i64 0, .string ⟨#[]⟩, .int .i64 0, .slice none 0 0] 25)).drew.heap[wr.heap.size]? = some (.cells #[.int .i64 0, .string ⟨#[]⟩, .int .i64 0, .slice none 0 0] 25 (0, 0)) from blk_new _ _) hB); obtain ⟨⟨z0, z1, z2, z3⟩, ⟨y0, y1, y2, y3⟩, z4⟩ := zcells HZ.out); clear hl hB))
    all_goals
     go_wp2_with fail
     go_meet
     case rel =>
      first
      | exact ⟨_, Ax, cx, rfl, rfl, Lib.hid ⟨Si.alloc HSn.out _, TBx.new (Kd.F_now HLx.out.1) HLx.out.2⟩⟩
      | exact ⟨_, Ax, cx, rfl, rfl, Lib.hid ⟨(((Si.set HSn.out (Nat.le_refl _) _).set (Nat.le_refl _) _).set (Nat.le_refl _) _).set (Nat.le_refl _) _, tbx_put HZ.out HLx.out (fun k hk => by have := blk_lt HS0.out.t.b; rcases hk with hk | hk; omega; (simp at hk; omega))⟩⟩
   case rest =>
    obtain ⟨bx, Ax, cx, rfl, rfl, HSX⟩ := hcut
    obtain ⟨g0, g1, g2, g3, _⟩ := HSX.out.1.S
    obtain ⟨x0, x1, x2, x3, x4⟩ := HSX.out.2.cells
    go_wp2_with fail
    refine (invert_at q u (some ⟨n + 1, 0, none⟩) 7 7 HQ5.out (by omega) (by omega) HUO.out.iv (Kd.F_now HSX.out.1.r) (by have := HQ5.out; omega)).mono ?_
    rintro e W4 ⟨Au, cu, rfl, hu, hB⟩
    have HU4 := Lib.hid hu
    have HS4 := Lib.hid (And.intro (HSX.out.1.below hB) (HSX.out.2.below hB))
    clear hu hB HSX g0 g1 g2 g3 x0 x1 x2 x3 x4
    obtain ⟨x0, x1, x2, x3, x4⟩ := HS4.out.2.cells
    obtain ⟨g0, g1, g2, g3, g4⟩ := HS4.out.1.t.tb.cells
    go_wp2_with fail
    refine (rename_at u Au cu rfl HWX.out HOB.out HBK.out HU4.out HS4.out.2.l HS4.out.2.c).mono ?_
    rintro e W5 ⟨v, rfl, Ab, cb, rfl, hl, hB⟩
    have HLb := Lib.hid hl
    have HS5 := Lib.hid (HS4.out.1.below hB)
    clear hl hB HS4 g0 g1 g2 g3 g4 x0 x1 x2 x3 x4
    obtain ⟨g0, g1, g2, g3, g4⟩ := HS5.out.t.tb.cells
    go_wp2_with fail
    refine (rsame_at HNT.out HSTT.out (Kd.C_alloc HLb.out.1 _) HLb.out.2 (Kd.C_alloc HS5.out.t.tb.l _) HS5.out.t.c).mono ?_
    rintro e W6 ⟨rfl, hB⟩
    have HB6 := Lib.hid (below_trans (yF HS5.out.be _) hB)
    clear hB HS5 g0 g1 g2 g3 g4
    go_wp2_with fail
    refine (f6_awake.calls true _ rfl).mono ?_
    rintro e W7 ⟨rfl, hB⟩
    have HB7 := Lib.hid (below_trans HB6.out hB)
    clear hB HB6
    go_wp2_with fail
    go_ret
    exact ⟨rfl, HB7.out⟩
end Go.Proofs.YtpkkoiljombooaaDoor.G
