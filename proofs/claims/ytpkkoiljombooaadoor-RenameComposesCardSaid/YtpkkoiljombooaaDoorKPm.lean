import Derived.Test.YtpkkoiljombooaaDoorKG0
import Derived.Test.YtpkkoiljombooaaDoorKG1
import Derived.Test.YtpkkoiljombooaaDoorKH6
import Derived.Test.YtpkkoiljombooaaDoorKH6b
import Derived.Test.YtpkkoiljombooaaDoorKH6c
import Derived.Test.YtpkkoiljombooaaDoorKSp
set_option linter.unusedVariables false
set_option linter.unusedSimpArgs false
namespace Go.Proofs.YtpkkoiljombooaaDoor.G
open Go.RowKit Go.Proofs.YtpkkoiljombooaaDoorW.PrintWords Go.Proofs.YtpkkoiljombooaaDoorW.PrintLast
theorem u64_mod (n : Int) : IntKind.u64.wrap n = n % 18446744073709551616 := by simp [IntKind.wrap, IntKind.bits, IntKind.signed]
theorem u64_small (n : Int) (h0 : 0 ≤ n) (h1 : n ≤ 4611686018427387904) : IntKind.u64.wrap n = n := by
 rw [u64_mod]; omega
theorem u64_nonneg (n : Int) : 0 ≤ IntKind.u64.wrap n := by
 rw [u64_mod]; omega
theorem wrap_in {n : Int} (h0 : -9223372036854775808 ≤ n) (h1 : n ≤ 9223372036854775807) : wrap64 n = n := by unfold wrap64; omega
theorem cut_some (x n : Int) (h0 : 0 < n) (h1 : n ≤ 4611686018427387904) : ∃ r, fm_Cut.f x n = some r ∧ 0 ≤ r ∧ r < n := by
 unfold fm_Cut.f
 rw [u64_small n (by omega) h1, if_neg (by omega)]
 have h := u64_nonneg x
 have e : Int.tmod (IntKind.u64.wrap x) n = IntKind.u64.wrap x % n := Int.tmod_eq_emod_of_nonneg h
 have g0 := Int.emod_nonneg (IntKind.u64.wrap x) (show n ≠ 0 by omega)
 have g1 := Int.emod_lt_of_pos (IntKind.u64.wrap x) h0
 refine ⟨_, rfl, ?_⟩
 rw [e, wrap_in (by omega) (by omega)]
 exact ⟨g0, g1⟩
theorem next_some (L : List Int) (i n : Int) (hL : L.length ≤ 4611686018427387904) (hi0 : 0 ≤ i) (hi1 : i ≤ L.length) (h0 : 0 < n) (h1 : n ≤ 4611686018427387904) :
  ∃ x j, fm_Tape_Next.f L i n = some (x, j) ∧ 0 ≤ x ∧ x < n ∧ i ≤ j ∧ j ≤ L.length := by
 unfold fm_Tape_Next.f
 by_cases h : i ≥ (L.length : Int)
 ·exact ⟨0, i, by rw [if_pos h], by omega, h0, by omega, hi1⟩
 ·have e1 : wrap64 (i + 1) = i + 1 := wrap_in (by omega) (by omega)
  have e2 : wrap64 (i + 1 - 1) = i := by rw [wrap_in (by omega) (by omega)]; omega
  rw [if_neg h, e1, e2, if_pos hi0, if_pos (by omega)]
  obtain ⟨x, hx, hx0, hx1⟩ := cut_some (rd L i) n h0 h1
  exact ⟨x, i + 1, by rw [hx]; rfl, hx0, hx1, by omega, by omega⟩
inductive MT : Int → Int → Int → Tm → Prop
 | lam {d v m : Int} {n : ByteArray} {a : Tm} (hd : 0 < d) (hn : n ∈ namesL) (ha : MT (d - 1) (v + 1) m a) : MT d v m ⟨3, n, 0, [a]⟩
 | app {d v m k : Int} {n : ByteArray} {i : Int} {ts : List Tm}
   (hk : (k = 4 ∧ n ∈ ([⟨#[122]⟩, ⟨#[115]⟩, ⟨#[99]⟩, ⟨#[97, 112, 112]⟩] : List ByteArray) ∧ i = 0) ∨ (k = 5 ∧ n = ⟨#[]⟩ ∧ 0 ≤ i ∧ i < v) ∨ (k = 6 ∧ n = ⟨#[]⟩ ∧ 0 ≤ i ∧ i < m))
   (hl : ts.length ≤ 2) (h0 : ts ≠ [] → 0 < d) (ht : ∀ a ∈ ts, MT (d - 1) v m a) : MT d v m ⟨k, n, i, ts⟩
inductive MY : Int → Int → Int → Tm → Prop
 | pi {d v m : Int} {n : ByteArray} {a b : Tm} (hd : 0 < d) (hn : n ∈ namesL) (ha : MY (d - 1) v m a) (hb : MY (d - 1) (v + 1) m b) : MY d v m ⟨2, n, 0, [a, b]⟩
 | con {d v m : Int} {n : ByteArray} {ts : List Tm} (hn : n ∈ ([⟨#[110, 97, 116]⟩, ⟨#[118, 101, 99]⟩, ⟨#[116, 109]⟩] : List ByteArray))
   (hl : ts.length ≤ 2) (h0 : ts ≠ [] → 0 < d) (ht : ∀ a ∈ ts, MT (d - 1) v m a) : MY d v m ⟨4, n, 0, ts⟩
inductive MK : Int → Nat → Tm → Prop
 | sort {d : Int} {c : Nat} : MK d c ⟨1, ⟨#[]⟩, 0, []⟩
 | pi {d : Int} {c : Nat} {a b : Tm} (ha : MY (d - 1) 0 0 a) (hb : MK d c b) : MK d (c + 1) ⟨2, ⟨#[]⟩, 0, [a, b]⟩
theorem mk_le {d : Int} {c : Nat} {t : Tm} (h : MK d c t) : ∀ {c' : Nat}, c ≤ c' → MK d c' t := by
 induction h with
 | sort => intro c' _; exact .sort
 | @pi c a b ha hb ih =>
  intro c' hc
  obtain ⟨q, rfl⟩ : ∃ q, c' = q + 1 := ⟨c' - 1, by omega⟩
  exact .pi ha (ih (by omega))
def MA (d v m : Int) (t : Tm) : Prop := MY d v m t ∨ MK d 2 t ∨ MT d v m t
theorem rdOf_mem (l : List ByteArray) (x : Int) (h0 : 0 ≤ x) (h1 : x < l.length) : rdOf ByteArray.empty l x ∈ l := by
 unfold rdOf
 rw [List.getD_eq_getElem?_getD, List.getElem?_eq_getElem (by omega)]
 exact List.getElem_mem _
abbrev TR (t : Tm) (j : Int) : Int × ByteArray × Int × List Tm × Int := (t.f0, t.f1, t.f2, t.f3, j)
theorem tm_args (d v m : Int) (k : Int) (n : ByteArray) (i : Int) (L : List Int)
  (hd0 : 0 < d) (hd1 : d ≤ 4611686018427387904)
  (ih : ∀ j : Int, 0 ≤ j → j ≤ L.length → ∃ t j', Ev (fun k => fm_Term.f k L j (d - 1) v m) (TR t j') ∧ MT (d - 1) v m t ∧ j ≤ j' ∧ j' ≤ L.length) :
  ∀ (c : Nat) (j : Int) (ts : List Tm), 0 ≤ j → j ≤ L.length → ts.length + c ≤ 100 → (∀ a ∈ ts, MT (d - 1) v m a) →
   ∃ ts' j', Ev (fun q => fm_Term.l0 q d v m (c : Int) L j k n i ts) (k, n, i, ts', j') ∧ (∀ a ∈ ts', MT (d - 1) v m a) ∧ ts'.length = ts.length + c ∧ j ≤ j' ∧ j' ≤ L.length := by
 intro c
 induction c with
 | zero =>
  intro j ts h0 h1 hl ht
  refine ⟨ts, j, Ev.step (f := fun _ => some (k, n, i, ts, j)) (fun q => ?_) (Ev.now _), ht, by omega, by omega, h1⟩
  simp only [fm_Term.l0]
  rw [if_neg (by omega)]
 | succ c ihc =>
  intro j ts h0 h1 hl ht
  obtain ⟨t, j1, he, hm, hj, hj1⟩ := ih j h0 h1
  obtain ⟨ts', j', he', ht', hl', hj2, hj3⟩ := ihc j1 (ts ++ [t]) (by omega) hj1 (by simp; omega) (by
   intro a ha
   rcases List.mem_append.1 ha with ha | ha
   ·exact ht a ha
   ·obtain rfl : a = t := by simpa using ha
    exact hm)
  refine ⟨ts', j', Ev.step (f := fun q => (fm_Term.f q L j (d - 1) v m).bind fun r => fm_Term.l0 q d v m (c : Int) L r.2.2.2.2 k n i (ts ++ [(⟨r.1, r.2.1, r.2.2.1, r.2.2.2.1⟩ : Tm)])) (fun q => ?_) (Ev.bind he ?_), ht', by simp at hl' ⊢; omega, by omega, hj3⟩
  ·simp only [fm_Term.l0]
   have e1 : wrap64 (((c + 1 : Nat) : Int) - 1) = (c : Int) := by rw [wrap_in (by omega) (by omega)]; omega
   have e2 : wrap64 (d - 1) = d - 1 := wrap_in (by omega) (by omega)
   have hlt : ts.length < 2513169434916 := by omega
   rw [if_pos (by omega), e1, e2]
   simp only [if_pos hlt]
  ·simpa only [tm_eta] using he'
theorem tm_j4 (d v m k : Int) (n : ByteArray) (i : Int) (L : List Int) (hL : L.length ≤ 4611686018427387904) (hd1 : d ≤ 100)
  (hk : (k = 4 ∧ n ∈ ([⟨#[122]⟩, ⟨#[115]⟩, ⟨#[99]⟩, ⟨#[97, 112, 112]⟩] : List ByteArray) ∧ i = 0) ∨ (k = 5 ∧ n = ⟨#[]⟩ ∧ 0 ≤ i ∧ i < v) ∨ (k = 6 ∧ n = ⟨#[]⟩ ∧ 0 ≤ i ∧ i < m))
  (ih : 0 < d → ∀ j : Int, 0 ≤ j → j ≤ L.length → ∃ t j', Ev (fun k => fm_Term.f k L j (d - 1) v m) (TR t j') ∧ MT (d - 1) v m t ∧ j ≤ j' ∧ j' ≤ L.length) :
  ∀ j : Int, 0 ≤ j → j ≤ L.length → ∃ t j', Ev (fun q => fm_Term.j4 q d v m L j k n i) (TR t j') ∧ MT d v m t ∧ j ≤ j' ∧ j' ≤ L.length := by
 intro j h0 h1
 by_cases hd : 0 < d
 ·obtain ⟨x, j1, hx, hx0, hx1, hj, hj1⟩ := next_some L j 3 hL h0 h1 (by omega) (by omega)
  obtain ⟨ts', j', he, ht, hl, hj2, hj3⟩ := tm_args d v m k n i L hd (by omega) (ih hd) x.toNat j1 [] (by omega) hj1 (by simp; omega) (by simp)
  refine ⟨⟨k, n, i, ts'⟩, j', Ev.step (f := fun q => fm_Term.l0 q d v m (x.toNat : Int) L j1 k n i []) (fun q => ?_) he, .app hk (by simp at hl; omega) (fun _ => hd) ht, by omega, hj3⟩
  simp only [fm_Term.j4]
  rw [if_pos hd, hx]
  simp only [Option.bind_some]
  rw [show ((x.toNat : Nat) : Int) = x by omega]
 ·refine ⟨⟨k, n, i, []⟩, j, Ev.step (f := fun q => some (k, n, i, [], j)) (fun q => ?_) (Ev.now _), .app hk (by simp) (fun h => absurd rfl h) (by simp), by omega, h1⟩
  simp only [fm_Term.j4]
  rw [if_neg hd]
theorem tm_j3 (d v m k : Int) (L : List Int) (hL : L.length ≤ 4611686018427387904) (hd1 : d ≤ 100) (hv : 0 ≤ v) (hv1 : v ≤ 1000) (hm : 0 ≤ m) (hm1 : m ≤ 1000)
  (hk : (k = 3 ∧ 0 < d) ∨ k = 4 ∨ (k = 5 ∧ v ≠ 0) ∨ (k = 6 ∧ m ≠ 0))
  (ih : 0 < d → ∀ v', 0 ≤ v' → v' ≤ v + 1 → ∀ j : Int, 0 ≤ j → j ≤ L.length → ∃ t j', Ev (fun k => fm_Term.f k L j (d - 1) v' m) (TR t j') ∧ MT (d - 1) v' m t ∧ j ≤ j' ∧ j' ≤ L.length) :
  ∀ j : Int, 0 ≤ j → j ≤ L.length → ∃ t j', Ev (fun q => fm_Term.j3 q d v m k L j) (TR t j') ∧ MT d v m t ∧ j ≤ j' ∧ j' ≤ L.length := by
 intro j h0 h1
 rcases hk with ⟨rfl, hd⟩ | rfl | ⟨rfl, hv2⟩ | ⟨rfl, hm2⟩
 ·obtain ⟨x, j1, hx, hx0, hx1, hj, hj1⟩ := next_some L j 6 hL h0 h1 (by omega) (by omega)
  obtain ⟨t, j2, he, ht, hj2, hj3⟩ := ih hd (v + 1) (by omega) (by omega) j1 (by omega) hj1
  refine ⟨⟨3, rdOf ByteArray.empty namesL x, 0, [t]⟩, j2, Ev.step (f := fun q => (fm_Term.f q L j1 (d - 1) (v + 1) m).bind fun r => some (3, rdOf ByteArray.empty namesL x, 0, [(⟨r.1, r.2.1, r.2.2.1, r.2.2.2.1⟩ : Tm)], r.2.2.2.2)) (fun q => ?_) (Ev.bind he (by simpa only [tm_eta] using Ev.now _)), .lam hd (rdOf_mem _ _ hx0 hx1) ht, by omega, hj3⟩
  have e1 : wrap64 (d - 1) = d - 1 := wrap_in (by omega) (by omega)
  have e2 : wrap64 (v + 1) = v + 1 := wrap_in (by omega) (by omega)
  simp only [fm_Term.j3, Option.bind_some, Int.reduceEq, ↓reduceIte, List.length_cons, List.length_nil, Nat.reduceAdd, Int.cast_ofNat_Int, hx]
  rw [if_pos hx0, if_pos hx1, e1, e2]
  rfl
 ·obtain ⟨x, j1, hx, hx0, hx1, hj, hj1⟩ := next_some L j 4 hL h0 h1 (by omega) (by omega)
  obtain ⟨t, j2, he, ht, hj2, hj3⟩ := tm_j4 d v m 4 (rdOf ByteArray.empty [⟨#[122]⟩, ⟨#[115]⟩, ⟨#[99]⟩, ⟨#[97, 112, 112]⟩] x) 0 L hL hd1 (.inl ⟨rfl, rdOf_mem _ _ hx0 hx1, rfl⟩) (fun hd => ih hd v hv (by omega)) j1 (by omega) hj1
  refine ⟨t, j2, Ev.step (f := fun q => fm_Term.j4 q d v m L j1 4 (rdOf ByteArray.empty [⟨#[122]⟩, ⟨#[115]⟩, ⟨#[99]⟩, ⟨#[97, 112, 112]⟩] x) 0) (fun q => ?_) he, ht, by omega, hj3⟩
  simp only [fm_Term.j3, Option.bind_some, Int.reduceEq, ↓reduceIte, hx]
  rw [if_pos hx0, if_pos (by simpa using hx1)]
 ·obtain ⟨x, j1, hx, hx0, hx1, hj, hj1⟩ := next_some L j v hL h0 h1 (by omega) (by omega)
  obtain ⟨t, j2, he, ht, hj2, hj3⟩ := tm_j4 d v m 5 ⟨#[]⟩ x L hL hd1 (.inr (.inl ⟨rfl, rfl, hx0, hx1⟩)) (fun hd => ih hd v hv (by omega)) j1 (by omega) hj1
  refine ⟨t, j2, Ev.step (f := fun q => fm_Term.j4 q d v m L j1 5 ⟨#[]⟩ x) (fun q => ?_) he, ht, by omega, hj3⟩
  simp only [fm_Term.j3, Option.bind_some, Int.reduceEq, ↓reduceIte, hx]
 ·obtain ⟨x, j1, hx, hx0, hx1, hj, hj1⟩ := next_some L j m hL h0 h1 (by omega) (by omega)
  obtain ⟨t, j2, he, ht, hj2, hj3⟩ := tm_j4 d v m 6 ⟨#[]⟩ x L hL hd1 (.inr (.inr ⟨rfl, rfl, hx0, hx1⟩)) (fun hd => ih hd v hv (by omega)) j1 (by omega) hj1
  refine ⟨t, j2, Ev.step (f := fun q => fm_Term.j4 q d v m L j1 6 ⟨#[]⟩ x) (fun q => ?_) he, ht, by omega, hj3⟩
  simp only [fm_Term.j3, Option.bind_some, Int.reduceEq, ↓reduceIte, hx]
def kindOf (x d v m : Int) : Int :=
 if d ≤ 0 ∧ x = 0 then 4 else if x = 0 then 3 else if x = 1 ∨ x = 2 then 4 else if x = 3 then (if v = 0 then 4 else 5) else (if m = 0 then 4 else 6)
theorem kindOf_ok (x d v m : Int) : (kindOf x d v m = 3 ∧ 0 < d) ∨ kindOf x d v m = 4 ∨ (kindOf x d v m = 5 ∧ v ≠ 0) ∨ (kindOf x d v m = 6 ∧ m ≠ 0) := by
 unfold kindOf
 split
 ·simp
 ·split
  ·left; refine ⟨rfl, by omega⟩
  ·split
   ·simp
   ·split <;> split <;> simp_all
theorem tm_j01 {d v m k0 : Int} {b : Bool} {L : List Int} {j : Int} {r : Int × ByteArray × Int × List Tm × Int} (h : Ev (fun q => fm_Term.j1 q d v m (if b = true then 4 else k0) L j) r) : Ev (fun q => fm_Term.j0 q d v m k0 b L j) r := by
 refine Ev.step (f := fun q => fm_Term.j1 q d v m (if b = true then 4 else k0) L j) (fun q => ?_) h
 simp only [fm_Term.j0]
 cases b <;> simp
theorem tm_j12 {d v m k : Int} {L : List Int} {j : Int} {r : Int × ByteArray × Int × List Tm × Int} (h : Ev (fun q => fm_Term.j2 q d v m k (decide ((k = 5 ∧ v = 0) ∨ (k = 6 ∧ m = 0))) L j) r) : Ev (fun q => fm_Term.j1 q d v m k L j) r := by
 refine Ev.step (f := fun q => fm_Term.j2 q d v m k (decide ((k = 5 ∧ v = 0) ∨ (k = 6 ∧ m = 0))) L j) (fun q => ?_) h
 simp only [fm_Term.j1]
 by_cases h5 : k = 5
 ·subst h5
  by_cases hv : v = 0 <;> simp [hv]
 ·by_cases h6 : k = 6
  ·subst h6
   rw [if_neg h5, if_pos rfl]
   congr 1
   by_cases hm : m = 0 <;> simp [hm]
  ·rw [if_neg h5, if_neg h6]
   simp [h5, h6]
theorem tm_j23 {d v m k : Int} {b : Bool} {L : List Int} {j : Int} {r : Int × ByteArray × Int × List Tm × Int} (h : Ev (fun q => fm_Term.j3 q d v m (if b = true then 4 else k) L j) r) : Ev (fun q => fm_Term.j2 q d v m k b L j) r := by
 refine Ev.step (f := fun q => fm_Term.j3 q d v m (if b = true then 4 else k) L j) (fun q => ?_) h
 simp only [fm_Term.j2]
 cases b <;> simp
theorem tm_step (d v m x : Int) (L : List Int) (j j1 : Int) (r : Int × ByteArray × Int × List Tm × Int) (hx : fm_Tape_Next.f L j 5 = some (x, j1)) (hx0 : 0 ≤ x) (hx1 : x < 5)
  (h : Ev (fun q => fm_Term.j3 q d v m (kindOf x d v m) L j1) r) : Ev (fun k => fm_Term.f k L j d v m) r := by
 refine Ev.step (f := fun q => fm_Term.j0 q d v m (rd [3, 4, 4, 5, 6] x) (decide (d ≤ 0) && rd [3, 4, 4, 5, 6] x == 3) L j1) (fun q => ?_) (tm_j01 (tm_j12 (tm_j23 ?_)))
 ·simp only [fm_Term.f, Option.bind_some]
  simp only [List.length_cons, List.length_nil, Nat.reduceAdd, Int.cast_ofNat_Int, hx, Option.bind_some]
  rw [if_pos hx0, if_pos hx1]
  by_cases hd : d ≤ 0
  ·rw [if_pos hd]; simp [hd]
  ·rw [if_neg hd]; simp [hd]
 ·refine Ev.congr (fun q => ?_) h
  congr 1
  obtain rfl | rfl | rfl | rfl | rfl : x = 0 ∨ x = 1 ∨ x = 2 ∨ x = 3 ∨ x = 4 := by omega
  all_goals simp only [kindOf, rd]
  all_goals by_cases hd : d ≤ 0 <;> by_cases hv : v = 0 <;> by_cases hm : m = 0 <;> simp [hd, hv, hm]
theorem tm_some (L : List Int) (hL : L.length ≤ 4611686018427387904) : ∀ (D : Nat) (d v m : Int), d ≤ D → D ≤ 100 → 0 ≤ v → v + D ≤ 1000 → 0 ≤ m → m ≤ 1000 → ∀ j : Int, 0 ≤ j → j ≤ L.length →
  ∃ t j', Ev (fun k => fm_Term.f k L j d v m) (TR t j') ∧ MT d v m t ∧ j ≤ j' ∧ j' ≤ L.length := by
 intro D
 induction D with
 | zero =>
  intro d v m hd _ hv hv2 hm hm2 j h0 h1
  obtain ⟨x, j1, hx, hx0, hx1, hj, hj1⟩ := next_some L j 5 hL h0 h1 (by omega) (by omega)
  obtain ⟨t, j2, he, ht, hj2, hj3⟩ := tm_j3 d v m (kindOf x d v m) L hL (by omega) hv (by omega) hm hm2 (kindOf_ok x d v m) (fun h => absurd h (by omega)) j1 (by omega) hj1
  exact ⟨t, j2, tm_step d v m x L j j1 _ hx hx0 hx1 he, ht, by omega, hj3⟩
 | succ D ih =>
  intro d v m hd hD hv hv2 hm hm2 j h0 h1
  obtain ⟨x, j1, hx, hx0, hx1, hj, hj1⟩ := next_some L j 5 hL h0 h1 (by omega) (by omega)
  obtain ⟨t, j2, he, ht, hj2, hj3⟩ := tm_j3 d v m (kindOf x d v m) L hL (by omega) hv (by omega) hm hm2 (kindOf_ok x d v m) (fun _ v' hv' hv2' j' => ih (d - 1) v' m (by omega) (by omega) hv' (by omega) hm hm2 j') j1 (by omega) hj1
  exact ⟨t, j2, tm_step d v m x L j j1 _ hx hx0 hx1 he, ht, by omega, hj3⟩
theorem ty_args (d v m : Int) (n : ByteArray) (L : List Int) (hL : L.length ≤ 4611686018427387904)
  (hd1 : d ≤ 100) (hv : 0 ≤ v) (hv1 : v ≤ 500) (hm : 0 ≤ m) (hm1 : m ≤ 1000) :
  ∀ (c : Nat) (j : Int) (ts : List Tm), 0 ≤ j → j ≤ L.length → ts.length + c ≤ 100 → (∀ a ∈ ts, MT (d - 1) v m a) →
   ∃ ts' j', Ev (fun q => fm_Type.l0 q d v m (c : Int) L j 4 n 0 ts) (4, n, 0, ts', j') ∧ (∀ a ∈ ts', MT (d - 1) v m a) ∧ ts'.length ≤ ts.length + c ∧ (ts' ≠ ts → 0 < d) ∧ j ≤ j' ∧ j' ≤ L.length := by
 intro c
 induction c with
 | zero =>
  intro j ts h0 h1 hl ht
  refine ⟨ts, j, Ev.step (f := fun _ => some (4, n, 0, ts, j)) (fun q => ?_) (Ev.now _), ht, by omega, fun h => absurd rfl h, by omega, h1⟩
  simp only [fm_Type.l0]
  rw [if_neg (by omega)]
 | succ c ihc =>
  intro j ts h0 h1 hl ht
  by_cases hd : 0 < d
  ·obtain ⟨t, j1, he, hm, hj, hj1⟩ := tm_some L hL 100 (d - 1) v m (by omega) (by omega) hv (by omega) hm hm1 j h0 h1
   obtain ⟨ts', j', he', ht', hl', _, hj2, hj3⟩ := ihc j1 (ts ++ [t]) (by omega) hj1 (by simp; omega) (by
    intro a ha
    rcases List.mem_append.1 ha with ha | ha
    ·exact ht a ha
    ·obtain rfl : a = t := by simpa using ha
     exact hm)
   refine ⟨ts', j', Ev.step (f := fun q => (fm_Term.f q L j (d - 1) v m).bind fun r => fm_Type.l0 q d v m (c : Int) L r.2.2.2.2 4 n 0 (ts ++ [(⟨r.1, r.2.1, r.2.2.1, r.2.2.2.1⟩ : Tm)])) (fun q => ?_) (Ev.bind he ?_), ht', by simp at hl' ⊢; omega, fun _ => hd, by omega, hj3⟩
   ·simp only [fm_Type.l0]
    have e1 : wrap64 (((c + 1 : Nat) : Int) - 1) = (c : Int) := by rw [wrap_in (by omega) (by omega)]; omega
    have e2 : wrap64 (d - 1) = d - 1 := wrap_in (by omega) (by omega)
    have hlt : ts.length < 2513169434916 := by omega
    rw [if_pos (by omega), if_pos hd, e1, e2]
    simp only [if_pos hlt]
   ·simpa only [tm_eta] using he'
  ·refine ⟨ts, j, Ev.step (f := fun _ => some (4, n, 0, ts, j)) (fun q => ?_) (Ev.now _), ht, by omega, fun h => absurd rfl h, by omega, h1⟩
   simp only [fm_Type.l0]
   rw [if_pos (by omega), if_neg hd]
theorem ty_con (d v m : Int) (L : List Int) (hL : L.length ≤ 4611686018427387904)
  (hd1 : d ≤ 100) (hv : 0 ≤ v) (hv1 : v ≤ 500) (hm : 0 ≤ m) (hm1 : m ≤ 1000) : ∀ j : Int, 0 ≤ j → j ≤ L.length →
  ∃ t j', Ev (fun q => fm_Type.j0 q d v m false L j) (TR t j') ∧ MY d v m t ∧ j ≤ j' ∧ j' ≤ L.length := by
 intro j h0 h1
 obtain ⟨x, j1, hx, hx0, hx1, hj, hj1⟩ := next_some L j 3 hL h0 h1 (by omega) (by omega)
 obtain ⟨y, j2, hy, hy0, hy1, hj2, hj3⟩ := next_some L j1 3 hL (by omega) hj1 (by omega) (by omega)
 obtain ⟨ts', j', he, ht, hl, hne, hj4, hj5⟩ := ty_args d v m (rdOf ByteArray.empty [⟨#[110, 97, 116]⟩, ⟨#[118, 101, 99]⟩, ⟨#[116, 109]⟩] x) L hL hd1 hv hv1 hm hm1 y.toNat j2 [] (by omega) hj3 (by simp; omega) (by simp)
 refine ⟨⟨4, rdOf ByteArray.empty [⟨#[110, 97, 116]⟩, ⟨#[118, 101, 99]⟩, ⟨#[116, 109]⟩] x, 0, ts'⟩, j', Ev.step (f := fun q => fm_Type.l0 q d v m (y.toNat : Int) L j2 4 (rdOf ByteArray.empty [⟨#[110, 97, 116]⟩, ⟨#[118, 101, 99]⟩, ⟨#[116, 109]⟩] x) 0 []) (fun q => ?_) he, .con (rdOf_mem _ _ hx0 hx1) (by simp at hl; omega) hne ht, by omega, hj5⟩
 simp only [fm_Type.j0, Option.bind_some, Bool.false_eq_true, ↓reduceIte, hx, hy]
 rw [if_pos hx0, if_pos (by simpa using hx1), show ((y.toNat : Nat) : Int) = y by omega]
theorem ty_some (L : List Int) (hL : L.length ≤ 4611686018427387904) : ∀ (D : Nat) (d v m : Int), d ≤ D → D ≤ 100 → 0 ≤ v → v + D ≤ 500 → 0 ≤ m → m ≤ 1000 → ∀ j : Int, 0 ≤ j → j ≤ L.length →
  ∃ t j', Ev (fun k => fm_Type.f k L j d v m) (TR t j') ∧ MY d v m t ∧ j ≤ j' ∧ j' ≤ L.length := by
 intro D
 induction D with
 | zero =>
  intro d v m hd hD hv hv2 hm hm2 j h0 h1
  obtain ⟨t, j', he, ht, hj, hj1⟩ := ty_con d v m L hL (by omega) hv (by omega) hm hm2 j h0 h1
  refine ⟨t, j', Ev.step (f := fun q => fm_Type.j0 q d v m false L j) (fun q => ?_) he, ht, hj, hj1⟩
  simp only [fm_Type.f]
  rw [if_neg (by omega)]
 | succ D ih =>
  intro d v m hd hD hv hv2 hm hm2 j h0 h1
  by_cases hd0 : 0 < d
  ·obtain ⟨x, j1, hx, hx0, hx1, hj, hj1⟩ := next_some L j 2 hL h0 h1 (by omega) (by omega)
   by_cases hx2 : x = 0
   ·subst hx2
    obtain ⟨a, j2, hea, ha, hj2, hj3⟩ := ih (d - 1) v m (by omega) (by omega) hv (by omega) hm hm2 j1 (by omega) hj1
    obtain ⟨y, j3, hy, hy0, hy1, hj4, hj5⟩ := next_some L j2 6 hL (by omega) hj3 (by omega) (by omega)
    obtain ⟨b, j4, heb, hb, hj6, hj7⟩ := ih (d - 1) (v + 1) m (by omega) (by omega) (by omega) (by omega) hm hm2 j3 (by omega) hj5
    refine ⟨⟨2, rdOf ByteArray.empty namesL y, 0, [a, b]⟩, j4, Ev.step (f := fun q => fm_Type.j0 q d v m true L j1) (fun q => ?_) (Ev.step (f := fun q => (fm_Type.f q L j1 (d - 1) v m).bind fun r => (fm_Tape_Next.f L r.2.2.2.2 6).bind fun s => if 0 ≤ s.1 then (if s.1 < 6 then ((fm_Type.f q L s.2 (d - 1) (v + 1) m).bind fun r' => some (2, rdOf ByteArray.empty namesL s.1, 0, [(⟨r.1, r.2.1, r.2.2.1, r.2.2.2.1⟩ : Tm), (⟨r'.1, r'.2.1, r'.2.2.1, r'.2.2.2.1⟩ : Tm)], r'.2.2.2.2)) else none) else none) (fun q => ?_) ?_), .pi hd0 (rdOf_mem _ _ hy0 hy1) ha hb, by omega, hj7⟩
    ·simp only [fm_Type.f, hx, Option.bind_some]
     rw [if_pos hd0]
     rfl
    ·have e1 : wrap64 (d - 1) = d - 1 := wrap_in (by omega) (by omega)
     have e2 : wrap64 (v + 1) = v + 1 := wrap_in (by omega) (by omega)
     simp only [fm_Type.j0, ↓reduceIte, Option.bind_some, e1, e2, List.length_cons, List.length_nil, Nat.reduceAdd, Int.cast_ofNat_Int]
     rfl
    ·refine Ev.bind hea ?_
     refine Ev.congr (f := fun q => (fm_Type.f q L j3 (d - 1) (v + 1) m).bind fun r' => some (2, rdOf ByteArray.empty namesL y, 0, [a, (⟨r'.1, r'.2.1, r'.2.2.1, r'.2.2.2.1⟩ : Tm)], r'.2.2.2.2)) (fun q => ?_) (Ev.bind heb ?_)
     ·show (fm_Tape_Next.f L j2 6).bind _ = _
      rw [hy, Option.bind_some, if_pos hy0, if_pos hy1]
      simp only [tm_eta]
     ·refine Ev.congr (fun q => ?_) (Ev.now _)
      simp only [tm_eta]
   ·obtain ⟨t, j', he, ht, hj2, hj3⟩ := ty_con d v m L hL (by omega) hv (by omega) hm hm2 j1 (by omega) hj1
    refine ⟨t, j', Ev.step (f := fun q => fm_Type.j0 q d v m false L j1) (fun q => ?_) he, ht, by omega, hj3⟩
    simp only [fm_Type.f, hx, Option.bind_some]
    rw [if_pos hd0, beq_eq_false_iff_ne.mpr hx2]
  ·obtain ⟨t, j', he, ht, hj, hj1⟩ := ty_con d v m L hL (by omega) hv (by omega) hm hm2 j h0 h1
   refine ⟨t, j', Ev.step (f := fun q => fm_Type.j0 q d v m false L j) (fun q => ?_) he, ht, hj, hj1⟩
   simp only [fm_Type.f]
   rw [if_neg (by omega)]
theorem any_pis (d : Int) (L : List Int) (hL : L.length ≤ 4611686018427387904) (hd1 : d ≤ 100) (hd2 : -100 ≤ d) :
  ∀ (c : Nat) (c0 : Nat) (j : Int) (t : Tm), 0 ≤ j → j ≤ L.length → c ≤ 100 → MK d c0 t →
   ∃ t' j', Ev (fun q => fm_Any.l0 q d (c : Int) L j t.f0 t.f1 t.f2 t.f3) (TR t' j') ∧ MK d (c0 + c) t' ∧ j ≤ j' ∧ j' ≤ L.length := by
 intro c
 induction c with
 | zero =>
  intro c0 j t h0 h1 _ ht
  refine ⟨t, j, Ev.step (f := fun _ => some (TR t j)) (fun q => ?_) (Ev.now _), ht, by omega, h1⟩
  simp only [fm_Any.l0]
  rw [if_neg (by omega)]
 | succ c ihc =>
  intro c0 j t h0 h1 hc ht
  obtain ⟨a, j1, he, ha, hj, hj1⟩ := ty_some L hL 100 (d - 1) 0 0 (by omega) (by omega) (by omega) (by omega) (by omega) (by omega) j h0 h1
  obtain ⟨t', j', he', ht', hj2, hj3⟩ := ihc (c0 + 1) j1 ⟨2, ⟨#[]⟩, 0, [a, t]⟩ (by omega) hj1 (by omega) (.pi ha ht)
  refine ⟨t', j', Ev.step (f := fun q => (fm_Type.f q L j (d - 1) 0 0).bind fun r => fm_Any.l0 q d (c : Int) L r.2.2.2.2 2 ⟨#[]⟩ 0 [(⟨r.1, r.2.1, r.2.2.1, r.2.2.2.1⟩ : Tm), t]) (fun q => ?_) (Ev.bind he ?_), by rw [show c0 + (c + 1) = c0 + 1 + c by omega]; exact ht', by omega, hj3⟩
  ·simp only [fm_Any.l0]
   have e1 : wrap64 (((c + 1 : Nat) : Int) - 1) = (c : Int) := by rw [wrap_in (by omega) (by omega)]; omega
   have e2 : wrap64 (d - 1) = d - 1 := wrap_in (by omega) (by omega)
   rw [if_pos (by omega), e1, e2]
   simp only [tm_eta]
  ·simpa only [tm_eta] using he'
theorem any_some (L : List Int) (hL : L.length ≤ 4611686018427387904) (d v m : Int) (hd0 : 0 ≤ d) (hd : d ≤ 100) (hv : 0 ≤ v) (hv1 : v ≤ 400) (hm : 0 ≤ m) (hm1 : m ≤ 1000) (j : Int) (h0 : 0 ≤ j) (h1 : j ≤ L.length) :
  ∃ t j', Ev (fun k => fm_Any.f k L j d v m) (TR t j') ∧ MA d v m t ∧ j ≤ j' ∧ j' ≤ L.length := by
 obtain ⟨x, j1, hx, hx0, hx1, hj, hj1⟩ := next_some L j 4 hL h0 h1 (by omega) (by omega)
 by_cases c0 : x = 0
 ·obtain ⟨t, j2, he, ht, hj2, hj3⟩ := ty_some L hL 100 d v m (by omega) (by omega) hv (by omega) hm hm1 j1 (by omega) hj1
  refine ⟨t, j2, ?_, .inl ht, by omega, hj3⟩
  simp only [fm_Any.f, hx, Option.bind_some, if_pos c0]
  exact Ev.bind he (Ev.now _)
 ·by_cases c1 : x = 1
  ·obtain ⟨y, j2, hy, hy0, hy1, hj2, hj3⟩ := next_some L j1 3 hL (by omega) hj1 (by omega) (by omega)
   obtain ⟨t, j3, he, ht, hj4, hj5⟩ := any_pis d L hL hd (by omega) y.toNat 0 j2 ⟨1, ⟨#[]⟩, 0, []⟩ (by omega) hj3 (by omega) .sort
   refine ⟨t, j3, ?_, .inr (.inl ?_), by omega, hj5⟩
   ·simp only [fm_Any.f, hx, Option.bind_some, if_neg c0, if_pos c1, hy]
    rw [show ((y.toNat : Nat) : Int) = y by omega] at he
    exact he
   ·exact mk_le ht (by omega)
  ·obtain ⟨t, j2, he, ht, hj2, hj3⟩ := tm_some L hL 100 d v m (by omega) (by omega) hv (by omega) hm hm1 j1 (by omega) hj1
   refine ⟨t, j2, ?_, .inr (.inr ht), by omega, hj3⟩
   simp only [fm_Any.f, hx, Option.bind_some, if_neg c0, if_neg c1]
   exact Ev.bind he (Ev.now _)
end Go.Proofs.YtpkkoiljombooaaDoor.G
