import Derived.Test.YtpkkoiljombooaaDoorKG0
import Derived.Test.YtpkkoiljombooaaDoorKPm
import Derived.Test.YtpkkoiljombooaaDoorKPs
import Derived.Test.YtpkkoiljombooaaDoorKH4
import Derived.Test.YtpkkoiljombooaaDoorKH4b
set_option linter.unusedVariables false
set_option linter.unusedSimpArgs false
namespace Go.Proofs.YtpkkoiljombooaaDoor.G
open Go.RowKit Go.Proofs.YtpkkoiljombooaaDoorW.PrintWords Go.Proofs.YtpkkoiljombooaaDoorW.PrintLast
theorem binder_ok {n : ByteArray} (h : n ∈ namesL) : binderName n = true := by
 simp only [namesL, List.mem_cons, List.not_mem_nil, or_false] at h
 rcases h with rfl | rfl | rfl | rfl | rfl | rfl <;> kernel_rfl
theorem cname_ok {n : ByteArray} (h : n ∈ ([⟨#[122]⟩, ⟨#[115]⟩, ⟨#[99]⟩, ⟨#[97, 112, 112]⟩] : List ByteArray)) : isNameB n = true := by
 simp only [List.mem_cons, List.not_mem_nil, or_false] at h
 rcases h with rfl | rfl | rfl | rfl <;> kernel_rfl
theorem objsB_of {ts : List Tm} (h : ∀ a ∈ ts, objB a = true) : objsB ts = true := by
 rw [objsB_all]; exact List.all_eq_true.2 h
theorem mt_obj {d v m : Int} {t : Tm} (h : MT d v m t) (hd : v + d ≤ 1000) (hd0 : v ≤ 1000) (hm : m ≤ 1000) : objB t = true := by
 induction h with
 | @lam d v m n a hd1 hn ha ih =>
  simp only [objB, if_true, objsB, Bool.and_true, Bool.and_eq_true]
  exact ⟨by simp [boundB, binder_ok hn], ih (by omega) (by omega) hm⟩
 | @app d v m k n i ts hk hl h0 ht ih =>
  have hobs : objsB ts = true := objsB_of (fun a ha => by
   have hd1 := h0 (fun e => by rw [e] at ha; cases ha)
   exact ih a ha (by omega) (by omega) hm)
  rcases hk with ⟨rfl, hn, rfl⟩ | ⟨rfl, rfl, hi0, hi1⟩ | ⟨rfl, rfl, hi0, hi1⟩
  ·simp [objB, cname_ok hn, hobs]
  ·simp only [objB, Int.reduceEq, ↓reduceIte, hobs, Bool.and_true, Bool.and_eq_true, decide_eq_true_eq]
   exact ⟨by kernel_rfl, hi0, by omega⟩
  ·simp only [objB, Int.reduceEq, ↓reduceIte, hobs, Bool.and_true, Bool.and_eq_true, decide_eq_true_eq]
   exact ⟨by kernel_rfl, hi0, by omega⟩
theorem wf_of {t : Tm} (h : objB t = true) (hs : nT t ≤ 128) : wfE t = 0 := by
 have hd := dT_le_nT _ t (Nat.le_refl _)
 have : smallB t = true := by unfold smallB; simp only [Bool.and_eq_true, decide_eq_true_eq]; omega
 unfold wfE sortB
 rw [h, this]
 rfl
def okNd (x : Nd) : Prop := 0 ≤ x.1 ∧ x.1 ≤ 2000 ∧ (x.2.1 = 5 → 0 ≤ x.2.2.2 ∧ x.2.2.2 ≤ 2000)
def inN (x : Nd) : Nd := (x.1 + 1, x.2)
theorem innerB_in (k b : Int) (j : Nat) (h0 : 0 ≤ b) (h1 : b ≤ 3000) : innerB k b j = if k = 3 ∨ (k = 2 ∧ j = 1) then b + 1 else b := by
 unfold innerB; split
 ·exact w64_in (by omega) (by omega)
 ·rfl
mutual
theorem nodes_in1 : ∀ (t : Tm) (b : Int) (f : Nat), nT t ≤ f → 0 ≤ b → b + f ≤ 2000 → nodesT (b + 1) t = (nodesT b t).map inN
 | ⟨k, n, i, ts⟩, b, f, hf, h0, h1 => by
  simp only [nodesT, List.map_cons]
  simp only [nT] at hf
  rw [nodes_in1L ts k b 0 (f - 1) (by omega) h0 (by omega)]
  rfl
theorem nodes_in1L : ∀ (ts : List Tm) (k b : Int) (j : Nat) (f : Nat), nTs ts ≤ f → 0 ≤ b → b + f + 1 ≤ 2000 → nodesL k (b + 1) j ts = (nodesL k b j ts).map inN
 | [], _, _, _, _, _, _, _ => by simp [nodesL]
 | a :: ts, k, b, j, f, hf, h0, h1 => by
  simp only [nodesL, List.map_append]
  simp only [nTs] at hf
  rw [nodes_in1L ts k b (j + 1) f (by omega) h0 h1]
  rw [innerB_in k b j h0 (by omega), innerB_in k (b + 1) j (by omega) (by omega)]
  have hp := nT_pos a
  split
  ·rw [nodes_in1 a (b + 1) f (by omega) (by omega) (by omega)]
  ·rw [nodes_in1 a b f (by omega) h0 (by omega)]
end
def outV (x : Nd) : Int := x.2.2.2 - x.1
def varsT (t : Tm) : List Int := ((nodesT 0 t).filter fun x => decide (x.2.1 = 5)).map outV
theorem scope_fold (L : List Nd) (h : ∀ x ∈ L, okNd x) : ∀ acc : Int, L.foldl scopeStep acc = ((L.filter fun x => decide (x.2.1 = 5)).map outV).foldl (fun a v => max a (v + 1)) acc := by
 induction L with
 | nil => intro acc; rfl
 | cons x L ih =>
  intro acc
  have hx := h x (by simp)
  have ih := ih (fun y hy => h y (by simp [hy]))
  simp only [List.foldl_cons]
  by_cases h5 : x.2.1 = 5
  ·rw [List.filter_cons_of_pos (by simpa using h5), List.map_cons, List.foldl_cons, ih]
   congr 1
   unfold scopeStep outV
   obtain ⟨h1, h2, h3⟩ := hx
   have h3 := h3 h5
   rw [if_pos h5, w64_in (n := x.2.2.2 - x.1) (by omega) (by omega), w64_in (by omega) (by omega)]
   unfold mx; split <;> omega
  ·rw [List.filter_cons_of_neg (by simpa using h5), ih]
   congr 1
   unfold scopeStep
   rw [if_neg h5]
theorem occ_any (L : List Nd) (h : ∀ x ∈ L, okNd x) (i : Int) : L.any (isVar i) = ((L.filter fun x => decide (x.2.1 = 5)).map outV).any (fun v => decide (v = i)) := by
 induction L with
 | nil => rfl
 | cons x L ih =>
  have hx := h x (by simp)
  have ih := ih (fun y hy => h y (by simp [hy]))
  simp only [List.any_cons, ih]
  by_cases h5 : x.2.1 = 5
  ·rw [List.filter_cons_of_pos (by simpa using h5), List.map_cons, List.any_cons]
   congr 1
   unfold isVar outV
   obtain ⟨h1, h2, h3⟩ := hx
   have h3 := h3 h5
   rw [w64_in (n := x.2.2.2 - x.1) (by omega) (by omega)]
   simp [h5]
  ·rw [List.filter_cons_of_neg (by simpa using h5)]
   simp [isVar, h5]
theorem mt_nodes {d v m : Int} {t : Tm} (h : MT d v m t) : ∀ b : Int, 0 ≤ b → b + d ≤ 1000 → b ≤ 1000 → v ≤ 900 → v + d ≤ 900 → ∀ x ∈ nodesT b t, okNd x ∧ (x.2.1 = 5 → outV x + b < v) := by
 induction h with
 | @lam d v m n a hd1 hn ha ih =>
  intro b h0 h1 h2 h3 h4 x hx
  simp only [nodesT, nodesL, List.append_nil, List.mem_cons] at hx
  rcases hx with rfl | hx
  ·exact ⟨⟨h0, by show b ≤ 2000; omega, fun h => by simp at h⟩, fun h => by simp at h⟩
  ·rw [innerB_in 3 b 0 h0 (by omega)] at hx
   simp only [true_or, if_true] at hx
   have := ih (b + 1) (by omega) (by omega) (by omega) (by omega) (by omega) x hx
   exact ⟨this.1, fun h => by have := this.2 h; omega⟩
 | @app d v m k n i ts hk hl h0 ht ih =>
  intro b hb h1 h2 h3 h4 x hx
  have hk3 : ¬ (k = 3) := by rcases hk with ⟨rfl, _⟩ | ⟨rfl, _⟩ | ⟨rfl, _⟩ <;> omega
  have hk2 : ¬ (k = 2) := by rcases hk with ⟨rfl, _⟩ | ⟨rfl, _⟩ | ⟨rfl, _⟩ <;> omega
  have hin : ∀ (ts' : List Tm) (j : Nat), (∀ a ∈ ts', a ∈ ts) → x ∈ nodesL k b j ts' → okNd x ∧ (x.2.1 = 5 → outV x + b < v) := by
   intro ts'
   induction ts' with
   | nil => intro j _ h; simp [nodesL] at h
   | cons a r ih2 =>
    intro j hs h
    simp only [nodesL, List.mem_append] at h
    rcases h with h | h
    ·rw [innerB_in k b j hb (by omega)] at h
     simp only [hk3, hk2, false_and, or_false, if_false] at h
     have ha := hs a (by simp)
     have hd1 := h0 (fun e => by rw [e] at ha; cases ha)
     exact ih a ha b hb (by omega) h2 h3 (by omega) x h
    ·exact ih2 (j + 1) (fun a ha => hs a (by simp [ha])) h
  simp only [nodesT, List.mem_cons] at hx
  rcases hx with rfl | hx
  ·rcases hk with ⟨rfl, _, rfl⟩ | ⟨rfl, _, hi0, hi1⟩ | ⟨rfl, _, hi0, hi1⟩
   ·exact ⟨⟨hb, by show b ≤ 2000; omega, fun h => by simp at h⟩, fun h => by simp at h⟩
   ·exact ⟨⟨hb, by show b ≤ 2000; omega, fun _ => ⟨hi0, by show i ≤ 2000; omega⟩⟩, fun _ => by show i - b + b < v; omega⟩
   ·exact ⟨⟨hb, by show b ≤ 2000; omega, fun h => by simp at h⟩, fun h => by simp at h⟩
  ·exact hin ts 0 (fun _ h => h) hx
theorem mt_deep' {d v m : Int} {t : Tm} (h : MT d v m t) : ∀ b : Int, 0 ≤ b → b + d ≤ 1000 → b ≤ 1000 → ∀ x ∈ nodesT b t, x.1 ≤ b + max d 0 := by
 induction h with
 | @lam d v m n a hd1 hn ha ih =>
  intro b h0 h1 h2 x hx
  simp only [nodesT, nodesL, List.append_nil, List.mem_cons] at hx
  rcases hx with rfl | hx
  ·show b ≤ _; omega
  ·rw [innerB_in 3 b 0 h0 (by omega)] at hx
   simp only [true_or, if_true] at hx
   have := ih (b + 1) (by omega) (by omega) (by omega) x hx
   omega
 | @app d v m k n i ts hk hl h0 ht ih =>
  intro b hb h1 h2 x hx
  have hk3 : ¬ (k = 3) := by rcases hk with ⟨rfl, _⟩ | ⟨rfl, _⟩ | ⟨rfl, _⟩ <;> omega
  have hk2 : ¬ (k = 2) := by rcases hk with ⟨rfl, _⟩ | ⟨rfl, _⟩ | ⟨rfl, _⟩ <;> omega
  have hin : ∀ (ts' : List Tm) (j : Nat), (∀ a ∈ ts', a ∈ ts) → x ∈ nodesL k b j ts' → x.1 ≤ b + max d 0 := by
   intro ts'
   induction ts' with
   | nil => intro j _ h; simp [nodesL] at h
   | cons a r ih2 =>
    intro j hs h
    simp only [nodesL, List.mem_append] at h
    rcases h with h | h
    ·rw [innerB_in k b j hb (by omega)] at h
     simp only [hk3, hk2, false_and, or_false, if_false] at h
     have ha := hs a (by simp)
     have hd1 := h0 (fun e => by rw [e] at ha; cases ha)
     have := ih a ha b hb (by omega) h2 x h
     omega
    ·exact ih2 (j + 1) (fun a ha => hs a (by simp [ha])) h
  simp only [nodesT, List.mem_cons] at hx
  rcases hx with rfl | hx
  ·show b ≤ _; omega
  ·exact hin ts 0 (fun _ h => h) hx
theorem mt_deep {d v m : Int} {t : Tm} (h : MT d v m t) (b : Int) (h0 : 0 ≤ b) (h1 : b + d ≤ 1000) (h2 : b ≤ 1000) (x : Nd) (hx : x ∈ nodesT b t) : x.1 ≤ b + max d 0 := mt_deep' h b h0 h1 h2 x hx
def scV (vs : List Int) : Int := vs.foldl (fun a v => max a (v + 1)) 0
theorem fold_ge (vs : List Int) : ∀ a : Int, a ≤ vs.foldl (fun a v => max a (v + 1)) a := by
 induction vs with
 | nil => intro a; simp
 | cons v vs ih => intro a; have := ih (max a (v + 1)); simp only [List.foldl_cons]; omega
theorem fold_mem (vs : List Int) : ∀ (a v : Int), v ∈ vs → v + 1 ≤ vs.foldl (fun a v => max a (v + 1)) a := by
 induction vs with
 | nil => intro a v h; cases h
 | cons x vs ih =>
  intro a v h
  simp only [List.foldl_cons]
  cases h with
  | head => have := fold_ge vs (max a (x + 1)); omega
  | tail _ h => exact ih _ v h
theorem fold_cases (vs : List Int) : ∀ a : Int, vs.foldl (fun a v => max a (v + 1)) a = a ∨ ∃ v ∈ vs, vs.foldl (fun a v => max a (v + 1)) a = v + 1 := by
 induction vs with
 | nil => intro a; exact .inl rfl
 | cons x vs ih =>
  intro a
  simp only [List.foldl_cons]
  rcases ih (max a (x + 1)) with h | ⟨v, hv, h⟩
  ·rw [h]
   rcases Int.le_total (x + 1) a with hle | hle
   ·left; omega
   ·right; exact ⟨x, by simp, by omega⟩
  ·right; exact ⟨v, by simp [hv], h⟩
theorem scV_pred (vs : List Int) : scV (vs.map (· - 1)) = max (scV vs - 1) 0 := by
 unfold scV
 have : ∀ (a a' : Int), a' = max (a - 1) 0 → 0 ≤ a → (vs.map (· - 1)).foldl (fun a v => max a (v + 1)) a' = max (vs.foldl (fun a v => max a (v + 1)) a - 1) 0 := by
  induction vs with
  | nil => intro a a' h _; simpa using h
  | cons v vs ih =>
   intro a a' h h0
   simp only [List.map_cons, List.foldl_cons]
   exact ih (max a (v + 1)) _ (by omega) (by omega)
 exact this 0 0 (by omega) (by omega)
def lastV (vs : List Int) : Nat → Int
 | 0 => -1
 | k + 1 => if vs.any (fun v => decide (v = (k : Int))) = true then (k : Int) else lastV vs k
theorem lastV_bound (vs : List Int) (k : Nat) : -1 ≤ lastV vs k ∧ lastV vs k < k := by
 induction k with
 | zero => simp [lastV]
 | succ k ih => simp only [lastV]; split <;> omega
theorem lastV_mem (vs : List Int) (k : Nat) : lastV vs k = -1 ∨ lastV vs k ∈ vs := by
 induction k with
 | zero => exact .inl rfl
 | succ k ih =>
  simp only [lastV]
  split
  ·next h =>
   obtain ⟨v, hv, e⟩ := List.any_eq_true.1 h
   simp only [decide_eq_true_eq] at e
   rw [← e]; exact .inr hv
  ·exact ih
theorem lastV_max (vs : List Int) (k : Nat) : ∀ v ∈ vs, 0 ≤ v → v < k → v ≤ lastV vs k := by
 induction k with
 | zero => intro v _ h0 h1; omega
 | succ k ih =>
  intro v hv h0 h1
  simp only [lastV]
  split
  ·omega
  ·next h =>
   refine ih v hv h0 ?_
   have : v ≠ (k : Int) := fun e => h (List.any_eq_true.2 ⟨v, hv, by simpa using e⟩)
   omega
theorem scV_last (vs : List Int) (h : ∀ v ∈ vs, v < 6) : scV vs = lastV vs 6 + 1 := by
 have hb := lastV_bound vs 6
 have h0 : 0 ≤ scV vs := fold_ge vs 0
 rcases fold_cases vs 0 with hc | ⟨v, hv, hc⟩
 ·have hc : scV vs = 0 := hc
  rcases lastV_mem vs 6 with hl | hl
  ·omega
  ·have : lastV vs 6 + 1 ≤ scV vs := fold_mem vs 0 _ hl
   omega
 ·have hc : scV vs = v + 1 := hc
  by_cases hv0 : 0 ≤ v
  ·have h1 := lastV_max vs 6 v hv hv0 (by have := h v hv; omega)
   rcases lastV_mem vs 6 with hl | hl
   ·omega
   ·have : lastV vs 6 + 1 ≤ scV vs := fold_mem vs 0 _ hl
    omega
  ·have : v = -1 := by omega
   rcases lastV_mem vs 6 with hl | hl
   ·omega
   ·have : lastV vs 6 + 1 ≤ scV vs := fold_mem vs 0 _ hl
    omega
theorem occ_pred (vs : List Int) (i : Int) : (vs.map (· - 1)).any (fun v => decide (v = i)) = vs.any (fun v => decide (v = i + 1)) := by
 induction vs with
 | nil => rfl
 | cons v vs ih =>
  simp only [List.map_cons, List.any_cons, ih]
  congr 1
  rw [Bool.eq_iff_iff]; simp; omega
abbrev lamT (t : Tm) : Tm := ⟨3, ⟨#[]⟩, 0, [t]⟩
structure BindsOk (t : Tm) : Prop where
 n : nT t ≤ 31
 wt : wfE t = 0
 wu : wfE (lamT t) = 0
 su : scopeW (lamT t) = max (scopeW t - 1) 0
 s : scopeW t = lastV (varsT t) 6 + 1
 ot : ∀ i : Int, occursW t i = (varsT t).any (fun v => decide (v = i))
 ou : ∀ i : Int, occursW (lamT t) i = occursW t (i + 1)
theorem binds_ok {t : Tm} (h : MT 4 5 2 t) : BindsOk t := by
 have hsz := mt_size h 4 (by omega)
 simp at hsz
 have hob := mt_obj h (by omega) (by omega) (by omega)
 have hnd := mt_nodes h 0 (by omega) (by omega) (by omega) (by omega) (by omega)
 have hok : ∀ x ∈ nodesT 0 t, okNd x := fun x hx => (hnd x hx).1
 have hu : nodesT 0 (lamT t) = (0, 3, ⟨#[]⟩, 0) :: (nodesT 0 t).map inN := by
  simp only [nodesT, nodesL, List.append_nil]
  rw [innerB_in 3 0 0 (by omega) (by omega)]
  simp only [true_or, if_true]
  rw [nodes_in1 t 0 40 (by omega) (by omega) (by omega)]
 have hoku : ∀ x ∈ nodesT 0 (lamT t), okNd x := by
  rw [hu]
  intro x hx
  rcases List.mem_cons.1 hx with rfl | hx
  ·exact ⟨by simp, by simp, fun h => by simp at h⟩
  ·obtain ⟨y, hy, rfl⟩ := List.mem_map.1 hx
   have hh := mt_nodes h 0 (by omega) (by omega) (by omega) (by omega) (by omega) y hy
   obtain ⟨h1, h2, h3⟩ := hh.1
   refine ⟨by show 0 ≤ y.1 + 1; omega, ?_, h3⟩
   show y.1 + 1 ≤ 2000
   have := mt_deep h 0 (by omega) (by omega) (by omega) y hy
   omega
 have hvu : varsT (lamT t) = (varsT t).map (· - 1) := by
  unfold varsT
  rw [hu]
  rw [List.filter_cons_of_neg (by simp)]
  rw [List.filter_map, List.map_map, List.map_map]
  have e1 : ((fun x : Nd => decide (x.2.1 = 5)) ∘ inN) = (fun x : Nd => decide (x.2.1 = 5)) := rfl
  rw [e1]
  apply List.map_congr_left
  intro x _
  show x.2.2.2 - (x.1 + 1) = x.2.2.2 - x.1 - 1
  omega
 have hs : scopeW t = scV (varsT t) := scope_fold _ hok 0
 have hsu : scopeW (lamT t) = scV (varsT (lamT t)) := scope_fold _ hoku 0
 refine ⟨by omega, wf_of hob (by omega), wf_of (t := lamT t) ?_ (by simp only [nT, nTs]; omega), ?_, ?_, fun i => occ_any _ hok i, fun i => ?_⟩
 ·simp only [objB, if_true, objsB, Bool.and_true, Bool.and_eq_true]
  exact ⟨by kernel_rfl, hob⟩
 ·rw [hsu, hs, hvu, scV_pred]
 ·rw [hs]
  refine scV_last _ (fun v hv => ?_)
  obtain ⟨x, hx, rfl⟩ := List.mem_map.1 hv
  obtain ⟨hx, h5⟩ := List.mem_filter.1 hx
  have := (hnd x hx).2 (by simpa using h5)
  omega
 ·have h1 : occursW (lamT t) i = (varsT (lamT t)).any (fun v => decide (v = i)) := occ_any _ hoku i
  have h2 : occursW t (i + 1) = (varsT t).any (fun v => decide (v = i + 1)) := occ_any _ hok (i + 1)
  rw [h1, h2, hvu, occ_pred]
end Go.Proofs.YtpkkoiljombooaaDoor.G
