import Derived.Test.YtpkkoiljombooaaDoorKG0
import Derived.Test.YtpkkoiljombooaaDoorKG17
import Derived.Test.YtpkkoiljombooaaDoorKH1a
import Derived.WalkKit
import Derived.KernelRfl
import Derived.WalkSpells
import Derived.Lib.Hide
import Derived.Outline
import Derived.Lib.Mul64
import Derived.Laws.Bits64b
import Derived.Laws.CopyOwn
import Derived.Deep.Cut
import Derived.Deep.DeepCutAuto
import Derived.Deep.CutBlock
import Derived.Deep.RegionHeld3
import Derived.Test.YtpkkoiljombooaaDoorKWMore
set_option linter.unusedVariables false
set_option linter.unusedSimpArgs false
namespace Go.Proofs.YtpkkoiljombooaaDoor.G
open Go.RowKit Go.Proofs.YtpkkoiljombooaaDoorW.PrintWords Go.Proofs.YtpkkoiljombooaaDoorW.PrintLast Go.Proofs.YtpkkoiljombooaaDoorW.PrintMore
theorem mul_one (n : Nat) (hn : n ≤ 1048576) : bits_Mul.f 1 (n : Int) = some (0, (n : Int)) := by
 have hand : bits .and .u64 (n : Int) 4294967295 = (n : Int) := by
  have h := bits_and_u64_nat n 4294967295 (by omega) (by omega)
  rw [show n &&& 4294967295 = n % 4294967296 from Nat.and_two_pow_sub_one_eq_mod n 32, Nat.mod_eq_of_lt (by omega)] at h
  exact h
 have h1 : bits .and .u64 (1 : Int) 4294967295 = 1 := by decide +kernel
 have h0 : bits .and .u64 (0 : Int) 4294967295 = 0 := by decide +kernel
 have e1 : (1 : Int) / 4294967296 = 0 := by decide
 have e2 : (n : Int) / 4294967296 = 0 := by omega
 have w0 : IntKind.u64.wrap 0 = 0 := by decide
 have wn : IntKind.u64.wrap (n : Int) = n := by rw [IntKind.wrap_u64]; omega
 unfold bits_Mul.f bits_Mul64.f
 simp only [hand, h1, e1, e2, Int.zero_mul, Int.one_mul, Int.mul_zero, w0, wn, Int.zero_add, Int.add_zero, h0, Int.zero_ediv, Option.bind_some]
theorem rp_info : (Tryd.prog.info? 3).map (fun i => (i.zero, i.size, i.bytes)) = some (some (.int .i64 0), 1, 8) := by kernel_rfl
def Rp (x : Int) (g n m : Nat) (W : World) : Prop := ∃ cur : List Value, W.heap[g]? = some (.cells cur.toArray 3 (0, 0)) ∧ cur.length = n ∧ ∀ j, j < m → cur[j]? = some (.int .i64 x)
theorem Rp.new {w2 : World} {g n base : Nat} {x : Int} {xs : List Value} (h : w2.ownsRow base 3 1 (.slice (some ⟨g, 0, none⟩) n n) n xs) : Rp x g n 0 w2 := by
 obtain ⟨_, h | ⟨g', cap, cur, e, hg, hh, r⟩⟩ := h
 ·cases h.1
 ·injection e with e1 e2 e3
  injection e1 with e1
  injection e1 with e1
  subst e1 e3
  exact ⟨cur.toList, by simpa using hh, by simpa using r.2.2.1, fun j h => by omega⟩
theorem Rp.splice {cur : List Value} {x : Int} {g n m k : Nat} {W : World} (hl : cur.length = n) (hc : ∀ j, j < m → cur[j]? = some (.int .i64 x)) (hk : m + k ≤ n) (hh : W.heap[g]? = some (.cells (splice cur m (List.replicate k (.int .i64 x))).toArray 3 (0, 0))) : Rp x g n (m + k) W := by
 refine ⟨_, hh, by rw [length_splice _ _ _ (by rw [List.length_replicate]; omega), hl], fun j hj => ?_⟩
 unfold Go.splice
 by_cases h : j < m
 ·rw [List.getElem?_append_left (by rw [List.length_take]; omega), List.getElem?_take_of_lt h, hc j h]
 ·rw [List.getElem?_append_right (by rw [List.length_take]; omega), List.getElem?_append_left (by rw [List.length_take, List.length_replicate]; omega), List.getElem?_replicate_of_lt (by rw [List.length_take]; omega)]
theorem Rp.done {x : Int} {g n base : Nat} {W : World} (h : Rp x g n n W) (hb : base ≤ g) (hn : n ≤ 1048576) : Kd.R (Kd.int .i64) 3 W base (fun k => base ≤ k) (.slice (some ⟨g, 0, none⟩) n n) (List.replicate n x) := by
 obtain ⟨cur, hh, hl, hc⟩ := h
 have e : cur = List.replicate n (.int .i64 x) := List.ext_getElem? (fun j => by
  by_cases hj : j < n
  ·rw [hc j hj, List.getElem?_replicate_of_lt hj]
  ·rw [List.getElem?_eq_none (by omega), List.getElem?_eq_none (by rw [List.length_replicate]; omega)])
 subst e
 have hs : (Kd.int .i64).sz = 1 := rfl
 refine ⟨fun k hk => ?_, List.replicate n (.int .i64 x), ⟨by rw [hs, List.length_replicate, List.length_replicate, Nat.mul_one], .inr ⟨g, n, _, by rw [List.length_replicate], hb, hh, by rw [List.length_replicate]; exact Nat.le_refl _, by unfold maxLen; omega, by rw [hs]; simp, by rw [hs, List.length_replicate, Nat.mul_one]; simp⟩⟩, ?_⟩
 ·have : g = k := by simpa [Value.ownBlock] using hk
  omega
 ·have := Kd.reps_scalar (enc := Value.int .i64) (List.replicate n x)
  rw [show encs (Value.int .i64) (List.replicate n x) = List.replicate n (.int .i64 x) by simp [encs]] at this
  exact this
theorem rp_src {W : World} {ad : Addr} {x : Int} {n : Nat} (h : W.cell? ad = some (.int .i64 x)) {j : Nat} {v : Value} (hj : (List.replicate (min 1 n) (Value.int .i64 x))[j]? = some v) : W.cell? (ad.add j) = some v := by
 have h1 := (List.getElem?_eq_some_iff.1 hj).1
 rw [List.length_replicate] at h1
 obtain rfl : j = 0 := by omega
 have h2 := (List.getElem?_eq_some_iff.1 hj).2
 rw [List.getElem_replicate] at h2
 subst h2
 exact h
theorem rp_one {k : Nat} {x : Int} : ∀ v ∈ List.replicate k (Value.int .i64 x), v.oneCell' = true := fun v hv => by rw [List.eq_of_mem_replicate hv]; rfl
theorem rp_src2 {W : World} {g m k : Nat} {cur : List Value} {x : Int} (hh : W.heap[g]? = some (.cells cur.toArray 3 (0, 0))) (hc : ∀ j, j < m → cur[j]? = some (.int .i64 x)) (hk : k ≤ m) {j : Nat} {v : Value} (hj : (List.replicate k (Value.int .i64 x))[j]? = some v) : W.drew.cell? ((⟨g, 0, none⟩ : Addr).add j) = some v := by
 have h1 := (List.getElem?_eq_some_iff.1 hj).1
 have h2 := (List.getElem?_eq_some_iff.1 hj).2
 rw [List.length_replicate] at h1
 rw [List.getElem_replicate] at h2
 subst h2
 have h3 := hc j (by omega)
 have h4 := yE (w := W) hh j
 have h5 : ((⟨g, 0, none⟩ : Addr).add j) = ⟨g, j, none⟩ := by
  unfold Addr.add
  split
  ·rename_i h; subst h; rfl
  ·simp
 rw [h5]
 refine Eq.trans (show W.drew.cell? ⟨g, j, none⟩ = W.cell? ⟨g, j, none⟩ from rfl) (h4.trans ?_)
 simpa using h3
theorem gate_step {P : Program} {ops : Array Oper} {o : Oper} {a : Act} {w : World} {K : Act → World → Prop} {Q : Exit → Act → World → Prop} {E : Prop} {b : Builtin} {xs : Array Operand} {ts : Array TypeId} (_ho : o.op = .call { callee := .builtin b, args := xs, argTypes := ts }) (h : if Region.wanted o (yielded ops a.tmps) = true then Oper.wp P o a w K Q else E) : if Region.wanted o (yielded ops a.tmps) = true then Oper.wp P o a w K Q else E := h
theorem belowGrownRp {B : Nat} {w W W2 : World} (h : Below B w W) (hB : B ≤ W.heap.size) (hg : W.grownBy W2 none) : Below B w W2 := h.grown hg hB (fun _ h => by cases h)
theorem cellGrownRp {W W2 : World} (h : W.grownBy W2 none) {a : Addr} {v : Value} (hc : W.cell? a = some v) : W2.cell? a = some v := by
 have := h.block a.block (World.block_lt_of_cell? W a hc) (by simp)
 simpa [World.cell?, this] using hc
set_option maxHeartbeats 4000000 in
set_option maxRecDepth 100000 in
theorem repeat_calls (x : Int) (ad : Addr) (n : Nat) (hn : n ≤ 1048576) (W : World) (hx : W.cell? ad = some (.int .i64 x)) :
  Calls Tryd.prog 108 #[.slice (some ad) 1 1, .int .i64 n] W fun e W' => ∃ v, e = .returned v ∧ Kd.R (Kd.int .i64) 3 W' W.heap.size (fun k => W.heap.size ≤ k) v (List.replicate n x) ∧ Below W.heap.size W W' := by
 have hm := mul_one n hn
 have n0 : decide ((n : Int) < 0) = false := decide_eq_false (by omega)
 go_enter Tryd.func108, Tryd.ntmps108
 go_wp2_with fail
 refine (bits_Mul.calls 1 n 0 n _ hm).mono ?_
 rintro e W1 ⟨rfl, hd⟩
 have hx1 : W1.cell? ad = some (.int .i64 x) := pw_cell_below hd.below hx
 have HB1 := Lib.hid hd.below
 clear hd hx hm
 obtain ⟨i0, hi, hz0, hz1, hz2⟩ := info_parts rp_info
 go_upto_region 7 with (first | (at_make; refine wpList_make_full _ rfl _ _ 22 rfl W.heap.size 3 i0 (.int .i64 0) 1 Tryd.underlying22 hi hz0 hz1 .i64 .i64 n n n rfl rfl rfl rfl (by rw [hz2]; omega) (by unfold maxLen; omega) (HB1.out.size) ?_; intro w2 hown hgr; have HH := Lib.hid (And.intro hown hgr); clear hown hgr))
 have HR0 := Lib.hid (Rp.new (x := x) HH.out.1)
 have HB2 := Lib.hid (belowGrownRp HB1.out HB1.out.size HH.out.2)
 have hx2 : w2.cell? ad = some (.int .i64 x) := cellGrownRp HH.out.2 hx1
 have hg : W.heap.size ≤ W1.heap.size := HB1.out.size
 clear HH hx1 hi hz0 hz1 hz2
 obtain ⟨cur, hh, hl, hc⟩ := HR0.out
 clear HR0
 have HL := Lib.hid (And.intro hl hc)
 clear hl hc
 go_wp2_with (first | ((with_reducible refine gate_builtin (b := .copy) (xs := #[.tmp 31, .tmp 32]) rfl ?_); go_loud (refine wpList_copy_splice rfl (.tmp 31) (.tmp 32) 22 22 rfl 3 Tryd.underlying22 (by kernel_rfl) _ _ _ _ _ _ rfl rfl W1.heap.size 0 cur 3 hh (List.replicate (min 1 n) (.int .i64 x)) (by rw [List.length_replicate]) ?hp ?hf ?h1 W.heap.size W HB2.out hg ?_); (case hp => exact fun _ => ⟨rfl, ad, rfl, fun j v hj => rp_src hx2 hj⟩); (case hf => have := HL.out.1; rw [List.length_replicate]; omega); (case h1 => exact rp_one); intro w3 hh3 hb3; have HH3 := Lib.hid (And.intro hh3 hb3); clear hh3 hb3))
 have HP1 : Hid (Rp x W1.heap.size n (min 1 n) w3) := Lib.hid (by have := Rp.splice (m := 0) (k := min 1 n) HL.out.1 (fun j h => by omega) (by omega) HH3.out.1.out; rwa [Nat.zero_add] at this)
 have HB3 := Lib.hid HH3.out.2
 obtain ⟨g, hgg⟩ : ∃ g, g = W1.heap.size := ⟨_, rfl⟩
 rw [← hgg] at HP1 hg ⊢
 clear HH3 HL hh HB2 hx2 HB1 hgg
 go_loopw [8] (fun v8 wr => ∃ m : Nat, m ≤ n ∧ (n = 0 ∨ 1 ≤ m) ∧ v8 = .int .i64 m ∧ Hid (Rp x g n m wr) ∧ Hid (Below W.heap.size W wr)) (fun v8 _ => n - (intOf v8).toNat)
 case atStart => exact ⟨min 1 n, by omega, by omega, by simp, HP1, HB3⟩
 case round =>
  obtain ⟨m, hm, hm1, rfl, HPm, HBm⟩ := hrel
  clear HP1 HB3
  by_cases hlt : m < n
  ·obtain ⟨cur, hh, hl, hc⟩ := HPm.out
   obtain ⟨k, hk⟩ : ∃ k, k = min m (n - m) := ⟨_, rfl⟩
   have HL := Lib.hid (And.intro hl hc)
   have HK := Lib.hid hk
   clear hl hc hk HPm
   go_upto_region 9 with fail
   have hne : ¬ ((m : Int) = n) := by omega
   go_region_held3 (fun W' => True) (first | trivial) (first | ((with_reducible refine gate_step (b := .copy) (xs := #[.tmp 41, .tmp 44]) rfl ?_); refine step_copy_splice rfl (.tmp 41) (.tmp 44) 22 22 rfl 3 Tryd.underlying22 (by kernel_rfl) _ _ _ _ _ _ rfl rfl g m cur 3 hh (List.replicate k (.int .i64 x)) ?hn ?hp ?hf rp_one W.heap.size W ?hb hg ?_; (case hn => rw [List.length_replicate]; exact HK.out); (case hp => exact fun _ => ⟨if_neg (by omega), _, rfl, fun j v hj => rp_src2 hh HL.out.2 (by have := HK.out; omega) hj⟩); (case hf => have h1 := HL.out.1; have h2 := HK.out; rw [List.length_replicate]; omega); (case hb => exact below_drew HBm.out); intro w3 hh3 hb3; have HH3 := Lib.hid (And.intro hh3 hb3); clear hh3 hb3))
   have hm1' : 1 ≤ k ∧ m + k ≤ n := by have := HK.out; omega
   have HP2 : Hid (Rp x g n (m + k) w3) := Lib.hid (Rp.splice HL.out.1 HL.out.2 hm1'.2 HH3.out.1.out)
   have hwr : IntKind.i64.wrap ((m : Int) + k) = ((m + k : Nat) : Int) := by rw [IntKind.wrap_i64]; omega
   rw [hwr]
   go_wp2_with fail
   go_roundw
   case rel => exact ⟨m + k, hm1'.2, by omega, rfl, HP2, Lib.hid HH3.out.2⟩
   case measure => simp [intOf]; omega
  ·have he : m = n := by omega
   subst he
   go_wp2_with fail
   refine bodyPost_ret (v := .slice (some ⟨g, 0, none⟩) m m) ?_ rfl ⟨_, rfl, Rp.done HPm.out hg hn, HBm.out⟩
   simp [results, Tryd.f108, go_sem]
end Go.Proofs.YtpkkoiljombooaaDoor.G
