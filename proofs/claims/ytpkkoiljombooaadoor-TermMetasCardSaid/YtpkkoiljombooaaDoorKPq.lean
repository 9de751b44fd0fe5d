import Derived.Test.YtpkkoiljombooaaDoorKG0
import Derived.Test.YtpkkoiljombooaaDoorKPb
import Derived.Test.YtpkkoiljombooaaDoorKH4c
set_option linter.unusedVariables false
set_option linter.unusedSimpArgs false
namespace Go.Proofs.YtpkkoiljombooaaDoor.G
open Go.RowKit Go.Proofs.YtpkkoiljombooaaDoorW.PrintWords Go.Proofs.YtpkkoiljombooaaDoorW.PrintLast
abbrev addO (L : List Int) (n : Int) : List Int := addOnce (fun a b => decide (a = b)) L n
theorem addO_hit {L : List Int} {n : Int} (h : n ∈ L) : addO L n = L := by
 unfold addO addOnce
 rw [if_pos (List.any_eq_true.2 ⟨n, h, by simp⟩)]
theorem addO_miss {L : List Int} {n : Int} (h : n ∉ L) : addO L n = L ++ [n] := by
 unfold addO addOnce
 rw [if_neg]
 intro hc
 obtain ⟨x, hx, e⟩ := List.any_eq_true.1 hc
 simp only [decide_eq_true_eq] at e
 subst e
 exact h hx
theorem addO_mem {L : List Int} {n x : Int} : x ∈ addO L n ↔ x ∈ L ∨ x = n := by
 by_cases h : n ∈ L
 ·rw [addO_hit h]
  constructor
  ·exact .inl
  ·rintro (h1 | rfl)
   ·exact h1
   ·exact h
 ·rw [addO_miss h]; simp
theorem foldO_mem (L : List Int) : ∀ (acc : List Int) (x : Int), x ∈ L.foldl addO acc ↔ x ∈ acc ∨ x ∈ L := by
 induction L with
 | nil => intro acc x; simp
 | cons n L ih =>
  intro acc x
  simp only [List.foldl_cons, ih, addO_mem, List.mem_cons]
  constructor
  ·rintro ((h | h) | h)
   ·exact .inl h
   ·exact .inr (.inl h)
   ·exact .inr (.inr h)
  ·rintro (h | h | h)
   ·exact .inl (.inl h)
   ·exact .inl (.inr h)
   ·exact .inr h
theorem foldO_dedup (L : List Int) : ∀ acc : List Int, (L.foldl addO []).foldl addO acc = L.foldl addO acc := by
 have : ∀ (R : List Int) (acc : List Int), (R.reverse.foldl addO []).foldl addO acc = R.reverse.foldl addO acc := by
  intro R
  induction R with
  | nil => intro acc; rfl
  | cons n R ih =>
   intro acc
   simp only [List.reverse_cons, List.foldl_append, List.foldl_cons, List.foldl_nil]
   by_cases h : n ∈ R.reverse.foldl addO []
   ·rw [addO_hit h, ih]
    have : n ∈ R.reverse := by simpa using (foldO_mem R.reverse [] n).1 h
    rw [addO_hit ((foldO_mem R.reverse acc n).2 (.inr this))]
   ·rw [addO_miss h, List.foldl_append, ih]
    rfl
 intro acc
 have h := this L.reverse acc
 rwa [List.reverse_reverse] at h
mutual
def idsT : Tm → List Int
 | ⟨k, _, i, ts⟩ => (if k = 6 then [i] else []) ++ idsL ts
def idsL : List Tm → List Int
 | [] => []
 | a :: ts => idsT a ++ idsL ts
end
theorem metas_fold (ns : List Nd) : ∀ acc : List Int, ns.foldl metasStep acc = ((ns.filter fun x => decide (x.2.1 = 6)).map fun x => x.2.2.2).foldl addO acc := by
 induction ns with
 | nil => intro acc; rfl
 | cons x ns ih =>
  intro acc
  simp only [List.foldl_cons]
  by_cases h : x.2.1 = 6
  ·rw [List.filter_cons_of_pos (by simpa using h), List.map_cons, List.foldl_cons, ih]
   unfold metasStep
   rw [if_pos h]
  ·rw [List.filter_cons_of_neg (by simpa using h), ih]
   unfold metasStep
   rw [if_neg h]
mutual
theorem ids_nodes : ∀ (t : Tm) (b : Int), ((nodesT b t).filter fun x => decide (x.2.1 = 6)).map (fun x => x.2.2.2) = idsT t
 | ⟨k, n, i, ts⟩, b => by
  simp only [nodesT, idsT]
  by_cases h : k = 6
  ·rw [List.filter_cons_of_pos (by simpa using h), List.map_cons, ids_nodesL ts k b 0, if_pos h]; rfl
  ·rw [List.filter_cons_of_neg (by simpa using h), ids_nodesL ts k b 0, if_neg h]; rfl
theorem ids_nodesL : ∀ (ts : List Tm) (k b : Int) (j : Nat), ((nodesL k b j ts).filter fun x => decide (x.2.1 = 6)).map (fun x => x.2.2.2) = idsL ts
 | [], _, _, _ => by simp [nodesL, idsL]
 | a :: ts, k, b, j => by
  simp only [nodesL, List.filter_append, List.map_append, idsL]
  rw [ids_nodes a _, ids_nodesL ts k b (j + 1)]
end
def metaL (t : Tm) : List Int := metasOf (nodesT 0 t)
theorem metaL_eq (t : Tm) : metaL t = (idsT t).foldl addO [] := by
 unfold metaL metasOf
 rw [metas_fold, ids_nodes]
theorem metaL_len (t : Tm) : (metaL t).length ≤ nT t := by
 have := metasOf_len (nodesT 0 t)
 rw [nodes_nT] at this
 exact this
def wantA (t : Tm) (k : Nat) : List Int := (idsL (t.f3.take k)).foldl addO (if t.f0 = 6 then [t.f2] else [])
theorem idsL_append (a b : List Tm) : idsL (a ++ b) = idsL a ++ idsL b := by
 induction a with
 | nil => simp [idsL]
 | cons x a ih => simp [idsL, ih]
theorem wantA_zero (t : Tm) : wantA t 0 = if t.f0 = 6 then [t.f2] else [] := by simp [wantA, idsL]
theorem wantA_succ (t : Tm) (k : Nat) (hk : k < t.f3.length) : wantA t (k + 1) = (metaL t.f3[k]).foldl addO (wantA t k) := by
 unfold wantA
 rw [List.take_succ_eq_append_getElem hk, idsL_append, List.foldl_append, metaL_eq, foldO_dedup]
 simp [idsL]
theorem wantA_all (t : Tm) : wantA t t.f3.length = metaL t := by
 rw [metaL_eq]
 cases t with
 | mk k n i ts =>
  unfold wantA
  simp only [List.take_length, idsT, List.foldl_append]
  by_cases h : k = 6
  ·rw [if_pos h]; rfl
  ·rw [if_neg h]; rfl
theorem foldO_len (L : List Int) : ∀ acc : List Int, (L.foldl addO acc).length ≤ acc.length + L.length := by
 induction L with
 | nil => intro acc; simp
 | cons n L ih =>
  intro acc
  have := ih (addO acc n)
  have h2 : (addO acc n).length ≤ acc.length + 1 := by
   by_cases h : n ∈ acc
   ·rw [addO_hit h]; omega
   ·rw [addO_miss h]; simp
  simp only [List.foldl_cons, List.length_cons]
  omega
theorem mt_idx {d v m : Int} {t : Tm} (h : MT d v m t) (hv : 0 ≤ v) (hvd : v + d ≤ 900) (hv9 : v ≤ 900) (hm : m ≤ 900) : ∀ (b : Int) (x : Nd), x ∈ nodesT b t → 0 ≤ x.2.2.2 ∧ x.2.2.2 ≤ 1000 := by
 induction h with
 | @lam d v m n a hd1 hn ha ih =>
  intro b x hx
  simp only [nodesT, nodesL, List.append_nil, List.mem_cons] at hx
  rcases hx with rfl | hx
  ·exact ⟨by simp, by simp⟩
  ·exact ih (by omega) (by omega) (by omega) hm _ x hx
 | @app d v m k n i ts hk hl h0 ht ih =>
  intro b x hx
  have hin : ∀ (ts' : List Tm) (j : Nat), (∀ a ∈ ts', a ∈ ts) → x ∈ nodesL k b j ts' → 0 ≤ x.2.2.2 ∧ x.2.2.2 ≤ 1000 := by
   intro ts'
   induction ts' with
   | nil => intro j _ h; simp [nodesL] at h
   | cons a r ih2 =>
    intro j hs h
    simp only [nodesL, List.mem_append] at h
    rcases h with h | h
    ·have ha := hs a (by simp)
     have hd1 := h0 (fun e => by rw [e] at ha; cases ha)
     exact ih a ha hv (by omega) hv9 hm _ x h
    ·exact ih2 (j + 1) (fun a ha => hs a (by simp [ha])) h
  simp only [nodesT, List.mem_cons] at hx
  rcases hx with rfl | hx
  ·rcases hk with ⟨_, _, rfl⟩ | ⟨_, _, h1, h2⟩ | ⟨_, _, h1, h2⟩
   ·exact ⟨by simp, by simp⟩
   ·exact ⟨h1, by show i ≤ 1000; omega⟩
   ·exact ⟨h1, by show i ≤ 1000; omega⟩
  ·exact hin ts 0 (fun _ h => h) hx
structure MetaOk (t : Tm) : Prop where
 n : nT t ≤ 100
 o : okN t
 f : metasFit t = true
 w : wfE t = 0
theorem meta_ok {d v m : Int} {t : Tm} (h : MT d v m t) (hv : 0 ≤ v) (hd : d ≤ 5) (hvd : v ≤ 100) (hm : m ≤ 900) : MetaOk t := by
 have hs := mt_size h 5 (by omega)
 simp at hs
 refine ⟨by omega, by unfold okN; omega, ?_, wf_of (mt_obj h (by omega) (by omega) (by omega)) (by omega)⟩
 unfold metasFit
 simp only [Bool.and_eq_true, decide_eq_true_eq, List.all_eq_true]
 refine ⟨by rw [nodes_nT]; omega, fun x hx => ?_⟩
 have := mt_idx h hv (by omega) (by omega) hm 0 x hx
 simp only [Bool.or_eq_true]
 right
 exact WalkArith.wf_i64 (by omega)
theorem mt_args {d v m : Int} {t : Tm} (h : MT d v m t) : ∀ a ∈ t.f3, (t.f0 = 3 ∧ MT (d - 1) (v + 1) m a) ∨ MT (d - 1) v m a := by
 cases h with
 | lam hd hn ha =>
  intro x hx
  rcases List.mem_cons.1 hx with rfl | hx
  ·exact .inl ⟨rfl, ha⟩
  ·cases hx
 | app hk hl h0 ht => intro x hx; exact .inr (ht x hx)
mutual
theorem idsT_len : ∀ t : Tm, (idsT t).length ≤ nT t
 | ⟨k, n, i, ts⟩ => by
  simp only [idsT, nT, List.length_append]
  have := idsL_len ts
  split <;> simp <;> omega
theorem idsL_len : ∀ ts : List Tm, (idsL ts).length ≤ nTs ts
 | [] => by simp [idsL]
 | a :: ts => by
  simp only [idsL, nTs, List.length_append]
  have h1 := idsT_len a
  have h2 := idsL_len ts
  omega
end
end Go.Proofs.YtpkkoiljombooaaDoor.G
