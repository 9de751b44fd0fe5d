import Derived.Test.YtpkkoiljombooaaKG0
import Derived.Test.YtpkkoiljombooaaKG5
import Derived.Test.YtpkkoiljombooaaKB
import Derived.Test.YtpkkoiljombooaaKSp
import Derived.Test.YtpkkoiljombooaaKH3a
import Derived.Test.YtpkkoiljombooaaKH3b
import Derived.Test.YtpkkoiljombooaaKH4
import Derived.Test.YtpkkoiljombooaaKSet
import Derived.Maps.OwnIn
import Derived.Maps.OwnSet
import Derived.Maps.AppendAt
import Derived.BigQuiet
import Derived.Deep.QuietTactic
import Derived.Test.YtpkkoiljombooaaKWMore
import Derived.Laws.EntriesVeiled
import Derived.RangeFuncNested
import Derived.RangeFuncBound
import Derived.RangeFuncCalls
import Derived.RangeFuncLeaves
import Derived.RangeFuncFrom
import Derived.RangeFuncBox
import Derived.Shelf.Abstract
import Derived.Shelf.RegionOpen
import Derived.WalkKit
import Derived.OwnWalkIn
import Derived.TacticsInMore
import Derived.LoopNIn
import Derived.LoopIn
import Derived.Lib.Hide
set_option linter.unusedVariables false
namespace Go.Proofs.Ytpkkoiljombooaa.G
open Go.RowKit Go.Maps Go.Proofs.YtpkkoiljombooaaW.PrintWords Go.Proofs.YtpkkoiljombooaaW.PrintLast
attribute [local go_sem] Oper.semAt_some
def addOnce {α : Type} (same : α → α → Bool) (L : List α) (v : α) : List α := if L.any (same v) then L else L ++ [v]
theorem SetIs_map {W : World} {P : Program} {k e : TypeId} {b n : Nat} {S : List Lit} (h : SetIs W P k e b n S) : ∃ es cl, W.heap[b]? = some (.map es cl) := by
 obtain ⟨D, ⟨es, cl, h1, _⟩, _⟩ := h
 exact ⟨es, cl, h1⟩
theorem ownsRow_lower {w : World} {B b : Nat} {e : TypeId} {size n : Nat} {v : Value} {xs : List Value} (h : w.ownsRow B e size v n xs) (hb : b ≤ B) : w.ownsRow b e size v n xs := by
 refine ⟨h.1, ?_⟩
 rcases h.2 with h | ⟨g, cap, cur, h1, h2, h3⟩
 ·exact .inl h
 ·exact .inr ⟨g, cap, cur, h1, Nat.le_trans hb h2, h3⟩
theorem kf_below {W W' : World} (h : Below W.heap.size W W') (B : Nat) : KeepsFrom B W W' :=
 ⟨h.size, fun k o _ hk _ => (h.block k (Array.getElem?_eq_some_iff.1 hk).1).trans hk⟩
theorem kt_below {W W' : World} (h : Below W.heap.size W W') : KT W W' := fun k _ _ _ hk _ => (h.block k (Array.getElem?_eq_some_iff.1 hk).1).trans hk
theorem kp_below {W W' : World} (h : Below W.heap.size W W') {n₀ : Nat} (hn : n₀ ≤ W.heap.size) : Kp n₀ W W' := ⟨h.mono hn, kt_below h⟩
theorem boxed_below {W W' : World} (h : Below W.heap.size W W') {B : Nat} {ty : TypeId} {v : Value} (hb : Boxed W B ty v) : Boxed W' B ty v := (h.block B hb.lt).trans hb
theorem kt_grown {W W' : World} {row : Option Nat} (h : W.grownBy W' row) (hr : ∀ j, row = some j → ∀ cs t m, W.heap[j]? = some (.cells cs t m) → ¬ (t = 25 ∨ t = 68 ∨ t = 52)) : KT W W' := by
 intro k cs t m hk ht
 refine (h.block k (Array.getElem?_eq_some_iff.1 hk).1 ?_).trans hk
 intro e
 exact hr k e.symm cs t m hk ht
set_option maxHeartbeats 1000000 in
theorem metas1_any (x : Tm) (A : Option Addr) (c : Nat) (w : World) (b : Bool) (hb : Hid ((x.f0 == 6) = b)) :
  Calls Try.prog 47 #[tv x A c] w fun e w' => e = .returned (.tuple #[.int .i64 x.f2, .bool b]) ∧ Below w.heap.size w w' := by
 go_enter Try.func47, Try.ntmps47
 go_wp2
 go_quiet (fail)
 go_wp2
 go_ret2
 exact ⟨by rw [← hb.out]; rfl, yG (yF (Below.refl _ _) _) nq⟩
def metasStep (L : List Int) (x : Nd) : List Int := if x.2.1 = 6 then addOnce (fun a b => decide (a = b)) L x.2.2.2 else L
def metasOf (ns : List Nd) : List Int := ns.foldl metasStep []
def metasFit (t : Tm) : Bool := decide ((nodesT 0 t).length ≤ 1000000000000) && (nodesT 0 t).all (fun x => !decide (x.2.1 = 6) || (Lit.int .i64 x.2.2.2).wf)
theorem metasStep_len (L : List Int) (x : Nd) : (metasStep L x).length ≤ L.length + 1 := by
 unfold metasStep addOnce
 split
 ·split <;> simp
 ·omega
theorem metasOf_len (ns : List Nd) : (metasOf ns).length ≤ ns.length := by
 have : ∀ (ns : List Nd) (L : List Int), (ns.foldl metasStep L).length ≤ L.length + ns.length := by
  intro ns
  induction ns with
  | nil => intro L; simp
  | cons x ns ih => intro L; have h1 := ih (metasStep L x); have h2 := metasStep_len L x; simp only [List.foldl_cons, List.length_cons]; omega
 have := this ns []
 simpa [metasOf] using this
theorem metas_info : (Try.prog.info? 3).map (fun i => (i.zero, i.size, i.bytes)) = some (some (.int .i64 0), 1, 8) := by kernel_rfl
def metasP (x : Nd) : Bool := !decide (x.2.1 = 6) || (Lit.int .i64 x.2.2.2).wf
theorem metasP_fit (x : Nv) (h : metasP x.nd = true) (k : x.t.f0 = 6) : (Lit.int .i64 x.t.f2).wf = true := by
 unfold metasP at h
 rw [show x.nd.2.1 = x.t.f0 from rfl, k] at h
 first
 | exact h
 | exact of_decide_eq_true h
def metasKeys (L : List Int) : List Lit := L.map (Lit.int .i64)
structure metasInv (w W : World) (Bo Bf Bm bm : Nat) (L : List Int) : Prop where
 out : ∃ v, Boxed W Bo 32 v ∧ W.ownsRow w.heap.size 3 1 v L.length (L.map (Value.int .i64))
 f : Boxed W Bf 71 (.func (.func 47) #[] #[])
 m : Boxed W Bm 86 (.map (some bm))
 s : SetIs W Try.prog 3 4 bm L.length (metasKeys L)
 b : Below w.heap.size w W
theorem metasInv.own {w : World} {Bo Bf Bm bm B : Nat} {S : Type} (f : S → List Int) (hb : bm < B) (hn : w.heap.size ≤ B) : OwnFrom B (fun (s : S) W => metasInv w W Bo Bf Bm bm (f s)) := by
 rintro s W W' row ⟨⟨v, h1, h2⟩, h3, h4, h5, h6⟩ hg hr
 have key : ∀ {D : Nat} {ty : TypeId} {u : Value}, Boxed W D ty u → Boxed W' D ty u := fun hbx => (boxed_own _ _ (fun _ : Unit => _)).from B () W W' row hbx hg hr
 refine ⟨⟨v, key h1, ?_⟩, key h3, key h4, h5.kept hg ?_, ownFrom_below (β := Unit) (Nat.le_refl _) hn () W W' row h6 hg hr⟩
 ·refine own_other h2 hg ?_
  by_cases hv : v.ownBlock = none
  ·exact .inl hv
  ·refine .inr (fun e => ?_)
   obtain ⟨k, hk⟩ := Option.ne_none_iff_exists'.mp hv
   rw [hk] at e
   obtain ⟨_, o, ho, hc⟩ := hr k e.symm
   obtain ⟨cells, hcs⟩ := own_typed h2 k hk
   rw [hcs] at ho
   cases ho
   cases hc
 ·intro e
  have := (hr bm e.symm).1
  omega
theorem metasInv.below {w W W' : World} {Bo Bf Bm bm : Nat} {L : List Int} (h : metasInv w W Bo Bf Bm bm L) (hb : Below W.heap.size W W') : metasInv w W' Bo Bf Bm bm L := by
 obtain ⟨⟨v, h1, h2⟩, h3, h4, h5, h6⟩ := h
 exact ⟨⟨v, boxed_below hb h1, pw_own_below h2 hb⟩, boxed_below hb h3, boxed_below hb h4, h5.below hb, below_trans h6 hb⟩
theorem metasInv.add {w W W3 w1 : World} {Bo Bf Bm bm : Nat} {L : List Int} {v v' : Value} {u : Int} {tmp : Obj} (B : Nat) (hbB : bm < B) (hwo : w.heap.size ≤ Bo) (hwm : w.heap.size ≤ bm) (hof : Bo ≠ Bf) (hom : Bo ≠ Bm)
  (h : metasInv w W Bo Bf Bm bm L) (hv : Boxed W Bo 32 v) (hrow : W.ownsRow w.heap.size 3 1 v L.length (L.map (Value.int .i64)))
  (hg : W.grownBy W3 (some bm)) (hS : SetIs W3 Try.prog 3 4 bm (L.length + 1) (metasKeys L ++ [(Lit.int .i64) u]))
  (hown' : w1.ownsRow w.heap.size 3 1 v' (L.length + 1) (L.map (Value.int .i64) ++ [.int .i64 u])) (hgrow : (W3.alloc tmp).grownBy w1 v.ownBlock) :
  KeepsFrom B W (w1.setCell ⟨Bo, 0, none⟩ v') ∧ Kp w.heap.size W (w1.setCell ⟨Bo, 0, none⟩ v') ∧ metasInv w (w1.setCell ⟨Bo, 0, none⟩ v') Bo Bf Bm bm (L ++ [u]) := by
 obtain ⟨_, h3, h4, h5, h6⟩ := h
 obtain ⟨es, cl, hmap⟩ := SetIs_map h5
 have cells_ne : ∀ {X : World} {D : Nat} {ty : TypeId} {x : Value}, Boxed X D ty x → X.heap[bm]? = some (.map es cl) → D ≠ bm := by
  intro X D ty x hx hm e
  subst e
  exact absurd ((show X.heap[D]? = _ from hx).symm.trans hm) (by intro e; cases e)
 have hv3 := hv.kept hg (by intro e; cases e; exact cells_ne hv hmap rfl)
 have hf3 := h3.kept hg (by intro e; cases e; exact cells_ne h3 hmap rfl)
 have hm3 := h4.kept hg (by intro e; cases e; exact cells_ne h4 hmap rfl)
 have hvne : some bm ≠ v.ownBlock := by
  intro e
  obtain ⟨cells, hcs⟩ := own_typed hrow bm e.symm
  exact absurd (hcs.symm.trans hmap) (by intro e; cases e)
 have hrow3 := hrow.kept hg (.inr (fun e => hvne e.symm))
 have hB3 : Below w.heap.size W W3 := (Below.refl _ _).grown hg h6.size (fun j e => by cases e; exact hwm)
 obtain ⟨hv1, hv2, hr2, hk2, hb2⟩ := hv3.appended (by decide) hrow3 (Nat.le_trans h6.size hg.size) hwo hown' hgrow
 have hf1 : Boxed w1 Bf 71 (.func (.func 47) #[] #[]) := (hf3.alloc tmp).kept hgrow (hf3.not_row (by decide) hrow3)
 have hm1 : Boxed w1 Bm 86 (.map (some bm)) := (hm3.alloc tmp).kept hgrow (hm3.not_row (by decide) hrow3)
 have hkt3 : KT W W3 := kt_grown hg (fun j e cs t m hj => by cases e; exact absurd (hmap.symm.trans hj) (by intro e; cases e))
 have hkt1 : KT (W3.alloc tmp) w1 := kt_grown hgrow (fun j e cs t m hj => by
  obtain ⟨cells, hcs⟩ := own_typed (hrow3.alloc tmp) j e
  rw [hj] at hcs
  cases hcs
  decide)
 have hkt2 : KT w1 (w1.setCell ⟨Bo, 0, none⟩ v') := kt_grown (grownBy_setCell' w1 Bo v') (fun j e cs t m hj => by
  cases e
  have := (show w1.heap[Bo]? = _ from hv1).symm.trans hj
  cases this
  decide)
 refine ⟨(KeepsFrom.of_grownBy hg (fun j e => by cases e; exact hbB)).trans (hk2.from _), ⟨hB3.trans hb2, ((hkt3.trans (KT.alloc _ _)).trans hkt1).trans hkt2⟩, ⟨⟨v', hv2, by rw [List.length_append, List.map_append]; exact hr2⟩, hf1.other (Ne.symm hof) _, hm1.other (Ne.symm hom) _, ?_, (h6.trans hB3).trans hb2⟩⟩
 rw [List.length_append, show metasKeys (L ++ [u]) = metasKeys L ++ [(Lit.int .i64) u] by simp [metasKeys]]
 exact ((hS.alloc tmp).kept hgrow (by intro e; exact hvne e)).kept (grownBy_setCell' w1 Bo v') (by
  intro e
  cases e
  exact cells_ne hv hmap rfl)
def metasAt (pre : List {v : Nv // metasP v.nd = true}) : List Int := metasOf (pre.map (fun v => v.1.nd))
theorem metasAt_miss (pre : List {v : Nv // metasP v.nd = true}) (x : {v : Nv // metasP v.nd = true}) (k : x.1.t.f0 ≠ 6) : metasAt (pre ++ [x]) = metasAt pre := by
 unfold metasAt metasOf
 rw [List.map_append, List.foldl_append]
 show metasStep _ x.1.nd = _
 unfold metasStep
 exact if_neg k
theorem metasKeys_mem (L : List Int) (v : Int) : (Lit.int .i64) v ∈ metasKeys L ↔ L.any (fun b => decide (v = b)) = true := by
 unfold metasKeys
 rw [List.mem_map, List.any_eq_true]
 constructor
 ·rintro ⟨a, h, e⟩
  exact ⟨a, h, by cases e; exact decide_eq_true rfl⟩
 ·rintro ⟨a, h, e⟩
  exact ⟨a, h, by rw [of_decide_eq_true e]⟩
theorem metasAt_hit (pre : List {v : Nv // metasP v.nd = true}) (x : {v : Nv // metasP v.nd = true}) (k : x.1.t.f0 = 6) (hs : (Lit.int .i64) x.1.t.f2 ∈ metasKeys (metasAt pre)) : metasAt (pre ++ [x]) = metasAt pre := by
 unfold metasAt metasOf
 rw [List.map_append, List.foldl_append]
 show metasStep (metasAt pre) x.1.nd = metasAt pre
 unfold metasStep
 refine (if_pos k).trans ?_
 unfold addOnce
 exact if_pos ((metasKeys_mem _ _).1 hs)
theorem metasAt_new (pre : List {v : Nv // metasP v.nd = true}) (x : {v : Nv // metasP v.nd = true}) (k : x.1.t.f0 = 6) (hs : ¬ (Lit.int .i64) x.1.t.f2 ∈ metasKeys (metasAt pre)) : metasAt (pre ++ [x]) = metasAt pre ++ [x.1.t.f2] := by
 unfold metasAt metasOf
 rw [List.map_append, List.foldl_append]
 show metasStep (metasAt pre) x.1.nd = _
 unfold metasStep
 refine (if_pos k).trans ?_
 unfold addOnce
 exact if_neg (fun e => hs ((metasKeys_mem _ _).2 e))
theorem metasAt_len (pre : List {v : Nv // metasP v.nd = true}) : (metasAt pre).length ≤ pre.length := by
 have := metasOf_len (pre.map (fun v => v.1.nd))
 rwa [List.length_map] at this
set_option maxRecDepth 100000 in
set_option maxHeartbeats 8000000 in
theorem metas_in (F : Fence) (hd : F.depth = none) (n : Nat) (hF : ∀ f, F.fn f) (hro : F.round = none) (hn : 3 ≤ n) (t : Tm) (hft : fitT t = true) (hfit : metasFit t = true) (A : Option Addr) (c : Nat) (w : World) (hl : lies w A t.f3)
  (hwf : ∀ m W, Below w.heap.size w W → CallsIn F m Try.prog 7 #[tv t A c] W fun e W' => e = .returned (.int .i64 0) ∧ Below W.heap.size W W')
  (hof : ∀ m (x : Tm) (A : Option Addr) (c : Nat) (W : World) (b : Bool), Hid ((x.f0 == 6) = b) → CallsIn F m Try.prog 47 #[tv x A c] W fun e W' => e = .returned (.tuple #[.int .i64 x.f2, .bool b]) ∧ Below W.heap.size W W') :
  CallsIn F n Try.prog 46 #[tv t A c, .func (.func 47) #[] #[]] w fun e w' => ∃ v, e = .returned v ∧ w'.ownsRow w.heap.size 3 1 v (metasOf (nodesT 0 t)).length ((metasOf (nodesT 0 t)).map (Value.int .i64)) ∧ Below w.heap.size w w' := by
 have h1 : 1 ≤ n := by omega
 have HWF := Lib.hid hwf
 have HL := Lib.hid hl
 have HOF := Lib.hid hof
 have hdd : ∀ k : Nat, (F.depth.isSome = true → 1 ≤ k) := fun k h => by rw [hd] at h; cases h
 clear hwf hl hof
 have hB0 : Below w.heap.size w ((w.alloc (.cells #[.int .i64 t.f0, .string t.f1, .int .i64 t.f2, .slice A t.f3.length c] 25)).alloc (.cells #[.func (.func 47) #[] #[]] 71)) := yF (yF (Below.refl _ _) _) _
 have hbt0 : BoxT ((w.alloc (.cells #[.int .i64 t.f0, .string t.f1, .int .i64 t.f2, .slice A t.f3.length c] 25)).alloc (.cells #[.func (.func 47) #[] #[]] 71)) w.heap.size t A c := (Below.heap_alloc _ _ _ (by simp)).trans (World.alloc_heap_new w _)
 have hbf0 : Boxed ((w.alloc (.cells #[.int .i64 t.f0, .string t.f1, .int .i64 t.f2, .slice A t.f3.length c] 25)).alloc (.cells #[.func (.func 47) #[] #[]] 71)) (w.heap.size + 1) 71 (.func (.func 47) #[] #[]) := by
  have := Boxed.new (w.alloc (.cells #[.int .i64 t.f0, .string t.f1, .int .i64 t.f2, .slice A t.f3.length c] 25)) 71 (.func (.func 47) #[] #[])
  rwa [World.size_alloc] at this
 have HB0 := Lib.hid hB0
 have HBT0 := Lib.hid hbt0
 have HBF0 := Lib.hid hbf0
 clear hB0 hbt0 hbf0
 have hmm := @run_makeMap Try.prog
 refine callsIn_of_wp_marks Try.func46 rfl (hF _) ?_ hro
 simp only [Try.ntmps46, List.size_toArray, List.length_cons, List.length_nil, Nat.reduceAdd, Nat.reduceSub, Array.replicate_succ, Array.replicate_zero, List.push_toArray, List.append_toArray, List.nil_append, List.cons_append]
 gi_wp2_with fail
 refine (HWF.out (n - 1) _ HB0.out).mono ?_
 rintro e W1 ⟨rfl, hB1⟩
 have hbt : BoxT W1 w.heap.size t A c := (hB1.block _ (blk_lt HBT0.out)).trans HBT0.out
 have hbf := Lib.hid ((hB1.block _ HBF0.out.lt).trans HBF0.out : Boxed W1 (w.heap.size + 1) 71 (.func (.func 47) #[] #[]))
 have hBW := Lib.hid (below_trans HB0.out hB1)
 have c0 : W1.cell? ⟨w.heap.size, 0, none⟩ = some (.int .i64 t.f0) := (yE hbt 0).trans rfl
 have c1 : W1.cell? ⟨w.heap.size, 1, none⟩ = some (.string t.f1) := (yE hbt 1).trans rfl
 have c2 : W1.cell? ⟨w.heap.size, 2, none⟩ = some (.int .i64 t.f2) := (yE hbt 2).trans rfl
 have c3 : W1.cell? ⟨w.heap.size, 3, none⟩ = some (.slice A t.f3.length c) := (yE hbt 3).trans rfl
 have hz : w.heap.size < W1.heap.size := blk_lt hbt
 have hz1 : w.heap.size + 1 < W1.heap.size := Boxed.lt hbf.out
 have hz2 : w.heap.size < W1.heap.size + 1 := by omega
 have hz3 : w.heap.size < W1.heap.size + 1 + 1 := by omega
 clear hbt hB1 HB0 HBT0 HBF0 HWF
 gi_wp2_with (gi_at_call 23; refine (nodes_in F (n - 1) hF hro _ _ _ _).mono ?_; rintro e w' ⟨rfl, rfl⟩)
 have hst : Hid (metasInv w ((((W1.alloc (.cells #[.slice none 0 0] 32)).alloc (.map #[] 0)).alloc (.cells #[.map (some (W1.heap.size + 1))] 86)).alloc (.cells #[.int .i64 t.f0, .string t.f1, .int .i64 t.f2, .slice A t.f3.length c] 25)) W1.heap.size (w.heap.size + 1) (W1.heap.size + 1 + 1) (W1.heap.size + 1) [] ∧
   BoxT ((((W1.alloc (.cells #[.slice none 0 0] 32)).alloc (.map #[] 0)).alloc (.cells #[.map (some (W1.heap.size + 1))] 86)).alloc (.cells #[.int .i64 t.f0, .string t.f1, .int .i64 t.f2, .slice A t.f3.length c] 25)) (W1.heap.size + 1 + 1 + 1) t A c ∧ ((((W1.alloc (.cells #[.slice none 0 0] 32)).alloc (.map #[] 0)).alloc (.cells #[.map (some (W1.heap.size + 1))] 86)).alloc (.cells #[.int .i64 t.f0, .string t.f1, .int .i64 t.f2, .slice A t.f3.length c] 25)).heap.size = W1.heap.size + 4) := by
  refine Lib.hid ⟨⟨⟨_, (((Boxed.new W1 32 (.slice none 0 0)).alloc _).alloc _).alloc _, World.ownsRow_nil _ _ _ _⟩, (((Boxed.alloc hbf.out _).alloc _).alloc _).alloc _, ?_, ?_, yF (yF (yF (yF hBW.out _) _) _) _⟩, ?_, by simp⟩
  ·refine Boxed.alloc ?_ _
   have := Boxed.new ((W1.alloc (.cells #[.slice none 0 0] 32)).alloc (.map #[] 0)) 86 (.map (some (W1.heap.size + 1)))
   rwa [World.size_alloc, World.size_alloc] at this
  ·have := ((SetIs.made (W1.alloc (.cells #[.slice none 0 0] 32)) Try.prog 3 4).alloc (.cells #[.map (some (W1.heap.size + 1))] 86)).alloc (.cells #[.int .i64 t.f0, .string t.f1, .int .i64 t.f2, .slice A t.f3.length c] 25)
   rwa [World.size_alloc] at this
  ·have := World.alloc_heap_new (((W1.alloc (.cells #[.slice none 0 0] 32)).alloc (.map #[] 0)).alloc (.cells #[.map (some (W1.heap.size + 1))] 86)) (.cells #[.int .i64 t.f0, .string t.f1, .int .i64 t.f2, .slice A t.f3.length c] 25)
   rwa [World.size_alloc, World.size_alloc, World.size_alloc] at this
 obtain ⟨hI0, hb2, hsz⟩ := hst.out
 have hB0 := hI0.b
 have hw1 : w.heap.size ≤ W1.heap.size := Nat.le_of_lt hz
 clear c0 c1 c2 c3 hmm hst
 generalize (((W1.alloc (.cells #[.slice none 0 0] 32)).alloc (.map #[] 0)).alloc (.cells #[.map (some (W1.heap.size + 1))] 86)).alloc (.cells #[.int .i64 t.f0, .string t.f1, .int .i64 t.f2, .slice A t.f3.length c] 25) = W0 at hI0 hb2 hsz hB0 ⊢
 refine wpIn_rangeFunc_ownH hro h1 (gf := 43) (lb := #[.pointer (some ⟨W1.heap.size + 1 + 1 + 1, 0, none⟩)]) rfl (hF _) (enters_of Try.func43 (by kernel_rfl) rfl)
  (nodes_stops_p metasP F hd (n - 1) hF hro (W1.heap.size + 1 + 1 + 1) t hft A c w W0 hB0 HL.out hb2 (by have := (Bool.and_eq_true_iff.mp hfit).2; exact this)) Kp.trans (kp_b (by omega)) (Below.refl _ _) (fun _ => rfl)
  (fun pre W => metasInv w W W1.heap.size (w.heap.size + 1) (W1.heap.size + 1 + 1) (W1.heap.size + 1) (metasAt pre))
  (fun _ _ _ => False)
  (metasInv.own metasAt (by omega) (by omega))
  (fun _ _ _ _ _ hs _ _ => hs)
  hI0
  (fun x a' W => ∃ Bx, BoxT W Bx x.1.t x.1.A x.1.c ∧ a' = { tmps := #[tv t A c, .func (.func 47) #[] #[], .pointer (some ⟨w.heap.size, 0, none⟩), .pointer (some ⟨w.heap.size + 1, 0, none⟩), .slice none 0 0, .pointer (some ⟨W1.heap.size, 0, none⟩), .pointer (some ⟨W1.heap.size + 1 + 1, 0, none⟩), undef, .pointer (some ⟨Bx, 0, none⟩), undef, undef, tv t A c, .int .i64 0, .bool false, .map (some (W1.heap.size + 1)), tv t A c, .func (.func 43) #[] #[.pointer (some ⟨W1.heap.size + 1 + 1 + 1, 0, none⟩)], .int .i64 x.1.b, tv x.1.t x.1.A x.1.c, undef, undef, undef, undef, undef, undef, undef, undef, undef, undef, undef, undef, undef, undef, undef, undef, undef, undef, undef, undef], defers := [] })
  (fun x a' s W W' row hs hg hr => by obtain ⟨Bx, hb, rfl⟩ := hs; exact ⟨Bx, box_own () W W' row hb hg hr, rfl⟩)
  ?assign ?body ?done ?stop
 case assign =>
  rintro l pre x W K hI hK
  have HK := Lib.hid hK
  have HI := Lib.hid hI
  clear hK hI
  simp only [Nv.encs]
  gi_wp2
  refine HK.out _ _ ((KeepsOthers.alloc _ _).from _) (Kp.alloc HI.out.b.size _) (HI.out.below (yF (Below.refl _ _) _)) ⟨W.heap.size, World.alloc_heap_new _ _, rfl⟩
 case body =>
  rintro l pre ⟨x, hxp⟩ a' W hl hrec hI ⟨Bx, hbx, rfl⟩ hlt
  dsimp only at hbx ⊢
  have cf := hI.f.cell
  have hx0 : W.cell? ⟨Bx, 0, none⟩ = some (.int .i64 x.t.f0) := (yE hbx 0).trans rfl
  have hx1 : W.cell? ⟨Bx, 1, none⟩ = some (.string x.t.f1) := (yE hbx 1).trans rfl
  have hx2 : W.cell? ⟨Bx, 2, none⟩ = some (.int .i64 x.t.f2) := (yE hbx 2).trans rfl
  have hx3 : W.cell? ⟨Bx, 3, none⟩ = some (.slice x.A x.t.f3.length x.c) := (yE hbx 3).trans rfl
  have HI := Lib.hid hI
  have hlim : pre.length < 1000000000000 := by have := of_decide_eq_true (Bool.and_eq_true_iff.mp hfit).1; omega
  have HLM := Lib.hid hlim
  have HXP := Lib.hid hxp
  have HLT := Lib.hid hlt
  clear hI hbx hrec hlt hlim
  by_cases k6 : x.t.f0 = 6
  ·have HK6 := Lib.hid k6
   have hb : Hid ((x.t.f0 == 6) = true) := Lib.hid (beq_iff_eq.mpr k6)
   clear k6
   gi_wp2_with fail
   refine (CallsIn.inRound l (HOF.out _ x.t x.A x.c W true hb)).mono ?_
   rintro e W2 ⟨rfl, hB2⟩
   have HB2 := Lib.hid hB2
   have HI2 := Lib.hid (HI.out.below hB2)
   have hm := HI2.out.m.cell
   have KEYD := int_keyed Try.underlying3
   have hkw : keyOf Try.prog 3 (.int .i64 x.t.f2) = some ((Lit.int .i64) x.t.f2) := keyOf_int_mk Try.underlying3 (metasP_fit x HXP.out HK6.out)
   have hik : WideAt.IsKeyLit ((Lit.int .i64) x.t.f2) := trivial
   by_cases hs : (Lit.int .i64) x.t.f2 ∈ metasKeys (metasAt pre)
   ·have hlook := HI2.out.s.look (t := 86) KEYD Try.underlying86 Try.underlying4 (Try.zeroValue4 _) hkw hik true (by simpa using hs)
    have HS := Lib.hid hs
    clear hB2 hs hkw hik
    gi_wp2_with fail
    exact ⟨kf_below HB2.out _, kp_below HB2.out HI.out.b.size, by show metasInv _ _ _ _ _ _ (metasAt (pre ++ [⟨x, hxp⟩])); rw [metasAt_hit pre ⟨x, hxp⟩ HK6.out HS.out]; exact HI2.out⟩
   ·have hlook := HI2.out.s.look (t := 86) KEYD Try.underlying86 Try.underlying4 (Try.zeroValue4 _) hkw hik false (by simpa using hs)
    obtain ⟨W3, hput, hS3, hg3⟩ := HI2.out.s.put (t := 86) KEYD Try.underlying86 Try.underlying4 (by have := metasAt_len pre; have := HLM.out; unfold maxLen; omega) hkw hik
    have HS := Lib.hid hs
    obtain ⟨es, cl, hmap⟩ := SetIs_map HI2.out.s
    obtain ⟨⟨v, hv, hrow⟩, _⟩ := HI2.out
    have hvW : Boxed W3 W1.heap.size 32 v := hv.kept hg3 (by intro e; have := Option.some.inj e; omega)
    have hrw : W3.ownsRow w.heap.size 3 1 v (metasAt pre).length ((metasAt pre).map (Value.int .i64)) := hrow.kept hg3 (.inr (fun e => by
     obtain ⟨cells, hcs⟩ := own_typed hrow _ e
     exact absurd (hcs.symm.trans hmap) (by intro e; cases e)))
    have hvc := hvW.cell
    have hpl := metasAt_len pre
    have hsz3 : w.heap.size ≤ W3.heap.size := Nat.le_trans HI2.out.b.size hg3.size
    have HHH := Lib.hid (And.intro hv (And.intro hrow (And.intro hS3 (And.intro hg3 (And.intro hpl (And.intro hsz3 (And.intro hrw hvW)))))))
    obtain ⟨i0, hi, hz0, hz1, hz2⟩ := info_parts metas_info
    have HH2 := Lib.hid (And.intro hi (And.intro hz0 (And.intro hz1 hz2)))
    clear hB2 hs hkw hik hmap hv hrow hS3 hg3 hpl hsz3 hrw hvW hi hz0 hz1 hz2
    gi_wp2_with (gi_at_builtin; refine wpListIn_append_own _ rfl _ _ 32 rfl w.heap.size 3 i0 (.int .i64 0) 1 8 Try.underlying32 HH2.out.1 HH2.out.2.1 HH2.out.2.2.1 HH2.out.2.2.2 rfl (by decide) _ _ _ rfl (HHH.out.2.2.2.2.2.2.1.alloc _) ⟨W3.heap.size, 0, none⟩ 1 1 [.int .i64 x.t.f2] rfl rfl (cell_one_new _ _ _) (by simp [Value.oneCell']) (by have := HHH.out.2.2.2.2.1; have := HLM.out; unfold maxLen; omega) (by have := HHH.out.2.2.2.2.1; have := HLM.out; omega) (by have := HHH.out.2.2.2.2.2.1; simp; omega) ?_; intro v' w1 hown' hgrow _; obtain ⟨g', cap', rfl⟩ := ownsRow_succ hown'; have HN := Lib.hid (And.intro hown' hgrow); obtain ⟨hv1, _⟩ := HHH.out.2.2.2.2.2.2.2.appended (by decide) HHH.out.2.2.2.2.2.2.1 HHH.out.2.2.2.2.2.1 (by omega) hown' hgrow; have hc1 := hv1.cell; have hf1 := hv1.frozen; clear hown' hgrow)
    have hadd := metasInv.add (Bo := W1.heap.size) (Bf := w.heap.size + 1) (Bm := W1.heap.size + 1 + 1) (bm := W1.heap.size + 1) (u := x.t.f2) W0.heap.size (by omega) hw1 (by omega) (by omega) (by omega) HI2.out HHH.out.1 HHH.out.2.1 HHH.out.2.2.2.1 HHH.out.2.2.1 HN.out.1 HN.out.2
    exact ⟨(kf_below HB2.out _).trans hadd.1, (kp_below HB2.out HI.out.b.size).trans hadd.2.1, by show metasInv _ _ _ _ _ _ (metasAt (pre ++ [⟨x, hxp⟩])); rw [metasAt_new pre ⟨x, hxp⟩ HK6.out HS.out]; exact hadd.2.2⟩
  ·have HX := Lib.hid (metasAt_miss pre ⟨x, hxp⟩ k6)
   have hb : Hid ((x.t.f0 == 6) = false) := Lib.hid (beq_eq_false_iff_ne.mpr k6)
   clear k6
   gi_wp2_with fail
   refine (CallsIn.inRound l (HOF.out _ x.t x.A x.c W false hb)).mono ?_
   rintro e W2 ⟨rfl, hB2⟩
   have HB2 := Lib.hid hB2
   clear hB2
   gi_wp2_with fail
   exact ⟨kf_below HB2.out _, kp_below HB2.out HI.out.b.size, by show metasInv _ _ _ _ _ _ (metasAt (pre ++ [⟨x, hxp⟩])); rw [HX.out]; exact HI.out.below HB2.out⟩
 case done =>
  rintro D ys W hD hys hI hK
  obtain ⟨⟨v, hv, hrow⟩, _, _, _, hB⟩ := hI
  have hc := hv.cell
  have HA := Lib.hid (And.intro hrow (And.intro hB (And.intro hys hK)))
  clear hv hrow hB hys hK
  gi_wp2
  refine ⟨by simp, .inl ⟨_, _, rfl, run_takeDeferred HA.out.2.2.2, ?_⟩⟩
  have hy : metasAt ys = metasOf (nodesT 0 t) := by
   unfold metasAt
   rw [← HA.out.2.2.1]
  refine ⟨_, results_tmp rfl _ _ _, v, rfl, ?_, ?_⟩
  ·rw [← hy]
   exact ownsRow_putObj HA.out.1 _ HA.out.2.2.2 rfl
  ·exact HA.out.2.1.trans (belowK_b (w := w) (Nat.le_refl _) _ D _ _ (by omega) HA.out.2.2.2 rfl rfl)
 case stop =>
  rintro D c pre W _ _ h _
  exact h.elim
set_option maxHeartbeats 2000000 in
theorem metas_bad (t : Tm) (A : Option Addr) (c : Nat) (w : World) (e0 : Int) (he : e0 ≠ 0)
  (hwf : ∀ W, Below w.heap.size w W → Calls Try.prog 7 #[tv t A c] W fun e W' => e = .returned (.int .i64 e0) ∧ Below W.heap.size W W') :
  Calls Try.prog 46 #[tv t A c, .func (.func 47) #[] #[]] w fun e w' => e = .returned (.slice none 0 0) ∧ Below w.heap.size w w' := by
 have HWF := Lib.hid hwf
 have e0n : (e0 != 0) = true := bne_iff_ne.mpr he
 have hB0 : Below w.heap.size w ((w.alloc (.cells #[.int .i64 t.f0, .string t.f1, .int .i64 t.f2, .slice A t.f3.length c] 25)).alloc (.cells #[.func (.func 47) #[] #[]] 71)) := yF (yF (Below.refl _ _) _) _
 have HB0 := Lib.hid hB0
 clear hwf he hB0
 go_enter Try.func46, Try.ntmps46
 go_wp2_with fail
 refine (HWF.out _ HB0.out).mono ?_
 rintro e W1 ⟨rfl, hB1⟩
 have hBW := Lib.hid (below_trans HB0.out hB1)
 clear hB1 HB0 HWF
 go_wp2_with fail
 go_ret
 exact ⟨rfl, hBW.out⟩
theorem metas_first (k : Nat) (t : Tm) (A : Option Addr) (c : Nat) (r : List Int) (w : World) (hr : lies w A t.f3) (hc : t.f3.length ≤ c)
  (h : ((term_WellFormed.f k t.f0 t.f1 t.f2 t.f3).bind fun e => if fitT t && metasFit t then (if e = 0 then some (metasOf (nodesT 0 t)) else some []) else none) = some r) :
  Calls Try.prog 46 #[tv t A c, .func (.func 47) #[] #[]] w fun e w' => ∃ v, e = .returned v ∧ w'.ownsRow w.heap.size 3 1 v r.length (r.map (Value.int .i64)) ∧ Below w.heap.size w w' := by
 obtain ⟨e, he, h⟩ := yK h
 have hwf : ∀ W, Below w.heap.size w W → Calls Try.prog 7 #[tv t A c] W fun e' W' => e' = .returned (.int .i64 e) ∧ Below W.heap.size W W' :=
  fun W hW => term_WellFormed.calls k t.f0 t.f1 t.f2 A c t.f3 e W (Kd.C_below hr hW) hc he
 split at h
 ·next hf =>
  obtain ⟨hf1, hf2⟩ := Bool.and_eq_true_iff.mp hf
  by_cases h0 : e = 0
  ·rw [if_pos h0] at h
   cases h
   subst h0
   exact callsIn_wide.1 (metas_in Fence.wide rfl 3 (fun _ => trivial) rfl (Nat.le_refl _) t hf1 hf2 A c w hr (fun m W hW => callsIn_wide.2 (hwf W hW)) (fun m x A c W b hb => callsIn_wide.2 (metas1_any x A c W b hb)))
  ·rw [if_neg h0] at h
   cases h
   refine (metas_bad t A c w e h0 hwf).mono ?_
   rintro _ W ⟨rfl, hB⟩
   exact ⟨_, rfl, World.ownsRow_nil _ _ _ _, hB⟩
 ·cases h
def term_Metas.f (k : Nat) (a0_0 : Int) (a0_1 : ByteArray) (a0_2 : Int) (l0_3 : List Tm) : Option (List Int) :=
 (term_WellFormed.f k a0_0 a0_1 a0_2 l0_3).bind fun e => if fitT ⟨a0_0, a0_1, a0_2, l0_3⟩ && metasFit ⟨a0_0, a0_1, a0_2, l0_3⟩ then (if e = 0 then some (metasOf (nodesT 0 ⟨a0_0, a0_1, a0_2, l0_3⟩)) else some []) else none
set_option maxHeartbeats 1000000 in
theorem term_Metas.calls (k : Nat) (a0_0 : Int) (a0_1 : ByteArray) (a0_2 : Int) (A0_3 : Option Addr) (c0_3 : Nat) (l0_3 : List Tm) (r : List Int) (w : World) (hr0_3 : lies w A0_3 l0_3) (hc0_3 : l0_3.length ≤ c0_3) (h : term_Metas.f k a0_0 a0_1 a0_2 l0_3 = some r) :
  Calls Try.prog 28 #[.agg #[.int .i64 a0_0, .string a0_1, .int .i64 a0_2, .slice A0_3 l0_3.length c0_3]] w fun e w' => ∃ v0_ : Value, e = .returned (v0_) ∧ Kd.R (Kd.int .i64) 3 w' w.heap.size (fun _ => True) v0_ r ∧ Below w.heap.size w w' := by
 have HF := Lib.hid (metas_first k ⟨a0_0, a0_1, a0_2, l0_3⟩ A0_3 c0_3 r (w.alloc (.cells #[.int .i64 a0_0, .string a0_1, .int .i64 a0_2, .slice A0_3 l0_3.length c0_3] 25)) (Kd.C_below hr0_3 (yF (Below.refl _ _) _)) hc0_3 h)
 clear hr0_3 h
 go_enter Try.func28, Try.ntmps28
 go_wp2_with fail
 refine HF.out.mono ?_
 rintro e W ⟨v, rfl, ho, hB⟩
 have HO := Lib.hid (And.intro ho hB)
 clear ho hB
 go_wp2_with fail
 go_ret
 exact ⟨v, rfl, Kd.R_of_own (ownsRow_lower HO.out.1 (b := w.heap.size) (by simp)) (fun _ _ => trivial), below_trans (yF (Below.refl _ _) _) HO.out.2⟩
end Go.Proofs.Ytpkkoiljombooaa.G
