import Derived.Test.YtpkkoiljombooaaKG0
import Derived.Test.YtpkkoiljombooaaKG5
import Derived.Test.YtpkkoiljombooaaKB
import Derived.Test.YtpkkoiljombooaaKSp
import Derived.Test.YtpkkoiljombooaaKH3a
import Derived.Test.YtpkkoiljombooaaKH3b
import Derived.Test.YtpkkoiljombooaaKH4
import Derived.Test.YtpkkoiljombooaaKSet
import Derived.Test.YtpkkoiljombooaaKH4c
import Derived.Maps.OwnIn
import Derived.Maps.OwnSet
import Derived.Maps.AppendAt
import Derived.BigQuiet
import Derived.Deep.QuietTactic
import Derived.Test.YtpkkoiljombooaaKWMore
import Derived.Laws.EntriesVeiled
import Derived.RangeFuncNested
import Derived.RangeFuncBound
import Derived.RangeFuncCalls
import Derived.RangeFuncLeaves
import Derived.RangeFuncFrom
import Derived.RangeFuncBox
import Derived.Shelf.Abstract
import Derived.Shelf.RegionOpen
import Derived.WalkKit
import Derived.OwnWalkIn
import Derived.TacticsInMore
import Derived.LoopNIn
import Derived.LoopIn
import Derived.Lib.Hide
set_option linter.unusedVariables false
namespace Go.Proofs.Ytpkkoiljombooaa.G
open Go.RowKit Go.Maps Go.Proofs.YtpkkoiljombooaaW.PrintWords Go.Proofs.YtpkkoiljombooaaW.PrintLast
attribute [local go_sem] Oper.semAt_some
set_option maxHeartbeats 1000000 in
theorem consts1_any (x : Tm) (A : Option Addr) (c : Nat) (w : World) (b : Bool) (hb : Hid ((x.f0 == 4) = b)) :
  Calls Try.prog 49 #[tv x A c] w fun e w' => e = .returned (.tuple #[.string x.f1, .bool b]) ∧ Below w.heap.size w w' := by
 go_enter Try.func49, Try.ntmps49
 go_wp2
 go_quiet (fail)
 go_wp2
 go_ret2
 exact ⟨by rw [← hb.out]; rfl, yG (yF (Below.refl _ _) _) nq⟩
def constsStep (L : List ByteArray) (x : Nd) : List ByteArray := if x.2.1 = 4 then addOnce (fun a b => decide (a.data.toList = b.data.toList)) L x.2.2.1 else L
def constsOf (ns : List Nd) : List ByteArray := ns.foldl constsStep []
def constsFit (t : Tm) : Bool := decide ((nodesT 0 t).length ≤ 1000000000000) && (nodesT 0 t).all (fun x => !decide (x.2.1 = 4) || decide (x.2.2.1.size ≤ 9223372036854775807))
theorem constsStep_len (L : List ByteArray) (x : Nd) : (constsStep L x).length ≤ L.length + 1 := by
 unfold constsStep addOnce
 split
 ·split <;> simp
 ·omega
theorem constsOf_len (ns : List Nd) : (constsOf ns).length ≤ ns.length := by
 have : ∀ (ns : List Nd) (L : List ByteArray), (ns.foldl constsStep L).length ≤ L.length + ns.length := by
  intro ns
  induction ns with
  | nil => intro L; simp
  | cons x ns ih => intro L; have h1 := ih (constsStep L x); have h2 := constsStep_len L x; simp only [List.foldl_cons, List.length_cons]; omega
 have := this ns []
 simpa [constsOf] using this
theorem consts_info : (Try.prog.info? 9).map (fun i => (i.zero, i.size, i.bytes)) = some (some (.string ⟨#[]⟩), 1, 16) := by kernel_rfl
def constsP (x : Nd) : Bool := !decide (x.2.1 = 4) || decide (x.2.2.1.size ≤ 9223372036854775807)
theorem constsP_fit (x : Nv) (h : constsP x.nd = true) (k : x.t.f0 = 4) : x.t.f1.size ≤ 9223372036854775807 := by
 unfold constsP at h
 rw [show x.nd.2.1 = x.t.f0 from rfl, k] at h
 first
 | exact h
 | exact of_decide_eq_true h
def constsKeys (L : List ByteArray) : List Lit := L.map (fun s => Lit.string s.data.toList)
structure constsInv (w W : World) (Bo Bf Bm bm : Nat) (L : List ByteArray) : Prop where
 out : ∃ v, Boxed W Bo 54 v ∧ W.ownsRow w.heap.size 9 1 v L.length (L.map (Value.string))
 f : Boxed W Bf 73 (.func (.func 49) #[] #[])
 m : Boxed W Bm 88 (.map (some bm))
 s : SetIs W Try.prog 9 4 bm L.length (constsKeys L)
 b : Below w.heap.size w W
theorem constsInv.own {w : World} {Bo Bf Bm bm B : Nat} {S : Type} (f : S → List ByteArray) (hb : bm < B) (hn : w.heap.size ≤ B) : OwnFrom B (fun (s : S) W => constsInv w W Bo Bf Bm bm (f s)) := by
 rintro s W W' row ⟨⟨v, h1, h2⟩, h3, h4, h5, h6⟩ hg hr
 have key : ∀ {D : Nat} {ty : TypeId} {u : Value}, Boxed W D ty u → Boxed W' D ty u := fun hbx => (boxed_own _ _ (fun _ : Unit => _)).from B () W W' row hbx hg hr
 refine ⟨⟨v, key h1, ?_⟩, key h3, key h4, h5.kept hg ?_, ownFrom_below (β := Unit) (Nat.le_refl _) hn () W W' row h6 hg hr⟩
 ·refine own_other h2 hg ?_
  by_cases hv : v.ownBlock = none
  ·exact .inl hv
  ·refine .inr (fun e => ?_)
   obtain ⟨k, hk⟩ := Option.ne_none_iff_exists'.mp hv
   rw [hk] at e
   obtain ⟨_, o, ho, hc⟩ := hr k e.symm
   obtain ⟨cells, hcs⟩ := own_typed h2 k hk
   rw [hcs] at ho
   cases ho
   cases hc
 ·intro e
  have := (hr bm e.symm).1
  omega
theorem constsInv.below {w W W' : World} {Bo Bf Bm bm : Nat} {L : List ByteArray} (h : constsInv w W Bo Bf Bm bm L) (hb : Below W.heap.size W W') : constsInv w W' Bo Bf Bm bm L := by
 obtain ⟨⟨v, h1, h2⟩, h3, h4, h5, h6⟩ := h
 exact ⟨⟨v, boxed_below hb h1, pw_own_below h2 hb⟩, boxed_below hb h3, boxed_below hb h4, h5.below hb, below_trans h6 hb⟩
theorem constsInv.add {w W W3 w1 : World} {Bo Bf Bm bm : Nat} {L : List ByteArray} {v v' : Value} {u : ByteArray} {tmp : Obj} (B : Nat) (hbB : bm < B) (hwo : w.heap.size ≤ Bo) (hwm : w.heap.size ≤ bm) (hof : Bo ≠ Bf) (hom : Bo ≠ Bm)
  (h : constsInv w W Bo Bf Bm bm L) (hv : Boxed W Bo 54 v) (hrow : W.ownsRow w.heap.size 9 1 v L.length (L.map (Value.string)))
  (hg : W.grownBy W3 (some bm)) (hS : SetIs W3 Try.prog 9 4 bm (L.length + 1) (constsKeys L ++ [(fun s => Lit.string s.data.toList) u]))
  (hown' : w1.ownsRow w.heap.size 9 1 v' (L.length + 1) (L.map (Value.string) ++ [.string u])) (hgrow : (W3.alloc tmp).grownBy w1 v.ownBlock) :
  KeepsFrom B W (w1.setCell ⟨Bo, 0, none⟩ v') ∧ Kp w.heap.size W (w1.setCell ⟨Bo, 0, none⟩ v') ∧ constsInv w (w1.setCell ⟨Bo, 0, none⟩ v') Bo Bf Bm bm (L ++ [u]) := by
 obtain ⟨_, h3, h4, h5, h6⟩ := h
 obtain ⟨es, cl, hmap⟩ := SetIs_map h5
 have cells_ne : ∀ {X : World} {D : Nat} {ty : TypeId} {x : Value}, Boxed X D ty x → X.heap[bm]? = some (.map es cl) → D ≠ bm := by
  intro X D ty x hx hm e
  subst e
  exact absurd ((show X.heap[D]? = _ from hx).symm.trans hm) (by intro e; cases e)
 have hv3 := hv.kept hg (by intro e; cases e; exact cells_ne hv hmap rfl)
 have hf3 := h3.kept hg (by intro e; cases e; exact cells_ne h3 hmap rfl)
 have hm3 := h4.kept hg (by intro e; cases e; exact cells_ne h4 hmap rfl)
 have hvne : some bm ≠ v.ownBlock := by
  intro e
  obtain ⟨cells, hcs⟩ := own_typed hrow bm e.symm
  exact absurd (hcs.symm.trans hmap) (by intro e; cases e)
 have hrow3 := hrow.kept hg (.inr (fun e => hvne e.symm))
 have hB3 : Below w.heap.size W W3 := (Below.refl _ _).grown hg h6.size (fun j e => by cases e; exact hwm)
 obtain ⟨hv1, hv2, hr2, hk2, hb2⟩ := hv3.appended (by decide) hrow3 (Nat.le_trans h6.size hg.size) hwo hown' hgrow
 have hf1 : Boxed w1 Bf 73 (.func (.func 49) #[] #[]) := (hf3.alloc tmp).kept hgrow (hf3.not_row (by decide) hrow3)
 have hm1 : Boxed w1 Bm 88 (.map (some bm)) := (hm3.alloc tmp).kept hgrow (hm3.not_row (by decide) hrow3)
 have hkt3 : KT W W3 := kt_grown hg (fun j e cs t m hj => by cases e; exact absurd (hmap.symm.trans hj) (by intro e; cases e))
 have hkt1 : KT (W3.alloc tmp) w1 := kt_grown hgrow (fun j e cs t m hj => by
  obtain ⟨cells, hcs⟩ := own_typed (hrow3.alloc tmp) j e
  rw [hj] at hcs
  cases hcs
  decide)
 have hkt2 : KT w1 (w1.setCell ⟨Bo, 0, none⟩ v') := kt_grown (grownBy_setCell' w1 Bo v') (fun j e cs t m hj => by
  cases e
  have := (show w1.heap[Bo]? = _ from hv1).symm.trans hj
  cases this
  decide)
 refine ⟨(KeepsFrom.of_grownBy hg (fun j e => by cases e; exact hbB)).trans (hk2.from _), ⟨hB3.trans hb2, ((hkt3.trans (KT.alloc _ _)).trans hkt1).trans hkt2⟩, ⟨⟨v', hv2, by rw [List.length_append, List.map_append]; exact hr2⟩, hf1.other (Ne.symm hof) _, hm1.other (Ne.symm hom) _, ?_, (h6.trans hB3).trans hb2⟩⟩
 rw [List.length_append, show constsKeys (L ++ [u]) = constsKeys L ++ [(fun s => Lit.string s.data.toList) u] by simp [constsKeys]]
 exact ((hS.alloc tmp).kept hgrow (by intro e; exact hvne e)).kept (grownBy_setCell' w1 Bo v') (by
  intro e
  cases e
  exact cells_ne hv hmap rfl)
def constsAt (pre : List {v : Nv // constsP v.nd = true}) : List ByteArray := constsOf (pre.map (fun v => v.1.nd))
theorem constsAt_miss (pre : List {v : Nv // constsP v.nd = true}) (x : {v : Nv // constsP v.nd = true}) (k : x.1.t.f0 ≠ 4) : constsAt (pre ++ [x]) = constsAt pre := by
 unfold constsAt constsOf
 rw [List.map_append, List.foldl_append]
 show constsStep _ x.1.nd = _
 unfold constsStep
 exact if_neg k
theorem constsKeys_mem (L : List ByteArray) (v : ByteArray) : (fun s => Lit.string s.data.toList) v ∈ constsKeys L ↔ L.any (fun b => decide (v.data.toList = b.data.toList)) = true := by
 unfold constsKeys
 rw [List.mem_map, List.any_eq_true]
 constructor
 ·rintro ⟨a, h, e⟩
  exact ⟨a, h, by injection e with e; exact decide_eq_true e.symm⟩
 ·rintro ⟨a, h, e⟩
  exact ⟨a, h, by show Lit.string a.data.toList = Lit.string v.data.toList; rw [of_decide_eq_true e]⟩
theorem constsAt_hit (pre : List {v : Nv // constsP v.nd = true}) (x : {v : Nv // constsP v.nd = true}) (k : x.1.t.f0 = 4) (hs : (fun s => Lit.string s.data.toList) x.1.t.f1 ∈ constsKeys (constsAt pre)) : constsAt (pre ++ [x]) = constsAt pre := by
 unfold constsAt constsOf
 rw [List.map_append, List.foldl_append]
 show constsStep (constsAt pre) x.1.nd = constsAt pre
 unfold constsStep
 refine (if_pos k).trans ?_
 unfold addOnce
 exact if_pos ((constsKeys_mem _ _).1 hs)
theorem constsAt_new (pre : List {v : Nv // constsP v.nd = true}) (x : {v : Nv // constsP v.nd = true}) (k : x.1.t.f0 = 4) (hs : ¬ (fun s => Lit.string s.data.toList) x.1.t.f1 ∈ constsKeys (constsAt pre)) : constsAt (pre ++ [x]) = constsAt pre ++ [x.1.t.f1] := by
 unfold constsAt constsOf
 rw [List.map_append, List.foldl_append]
 show constsStep (constsAt pre) x.1.nd = _
 unfold constsStep
 refine (if_pos k).trans ?_
 unfold addOnce
 exact if_neg (fun e => hs ((constsKeys_mem _ _).2 e))
theorem constsAt_len (pre : List {v : Nv // constsP v.nd = true}) : (constsAt pre).length ≤ pre.length := by
 have := constsOf_len (pre.map (fun v => v.1.nd))
 rwa [List.length_map] at this
set_option maxRecDepth 100000 in
set_option maxHeartbeats 8000000 in
theorem consts_in (F : Fence) (hd : F.depth = none) (n : Nat) (hF : ∀ f, F.fn f) (hro : F.round = none) (hn : 3 ≤ n) (t : Tm) (hft : fitT t = true) (hfit : constsFit t = true) (A : Option Addr) (c : Nat) (w : World) (hl : lies w A t.f3)
  (hwf : ∀ m W, Below w.heap.size w W → CallsIn F m Try.prog 7 #[tv t A c] W fun e W' => e = .returned (.int .i64 0) ∧ Below W.heap.size W W')
  (hof : ∀ m (x : Tm) (A : Option Addr) (c : Nat) (W : World) (b : Bool), Hid ((x.f0 == 4) = b) → CallsIn F m Try.prog 49 #[tv x A c] W fun e W' => e = .returned (.tuple #[.string x.f1, .bool b]) ∧ Below W.heap.size W W') :
  CallsIn F n Try.prog 48 #[tv t A c, .func (.func 49) #[] #[]] w fun e w' => ∃ v, e = .returned v ∧ w'.ownsRow w.heap.size 9 1 v (constsOf (nodesT 0 t)).length ((constsOf (nodesT 0 t)).map (Value.string)) ∧ Below w.heap.size w w' := by
 have h1 : 1 ≤ n := by omega
 have HWF := Lib.hid hwf
 have HL := Lib.hid hl
 have HOF := Lib.hid hof
 have hdd : ∀ k : Nat, (F.depth.isSome = true → 1 ≤ k) := fun k h => by rw [hd] at h; cases h
 clear hwf hl hof
 have hB0 : Below w.heap.size w ((w.alloc (.cells #[.int .i64 t.f0, .string t.f1, .int .i64 t.f2, .slice A t.f3.length c] 25)).alloc (.cells #[.func (.func 49) #[] #[]] 73)) := yF (yF (Below.refl _ _) _) _
 have hbt0 : BoxT ((w.alloc (.cells #[.int .i64 t.f0, .string t.f1, .int .i64 t.f2, .slice A t.f3.length c] 25)).alloc (.cells #[.func (.func 49) #[] #[]] 73)) w.heap.size t A c := (Below.heap_alloc _ _ _ (by simp)).trans (World.alloc_heap_new w _)
 have hbf0 : Boxed ((w.alloc (.cells #[.int .i64 t.f0, .string t.f1, .int .i64 t.f2, .slice A t.f3.length c] 25)).alloc (.cells #[.func (.func 49) #[] #[]] 73)) (w.heap.size + 1) 73 (.func (.func 49) #[] #[]) := by
  have := Boxed.new (w.alloc (.cells #[.int .i64 t.f0, .string t.f1, .int .i64 t.f2, .slice A t.f3.length c] 25)) 73 (.func (.func 49) #[] #[])
  rwa [World.size_alloc] at this
 have HB0 := Lib.hid hB0
 have HBT0 := Lib.hid hbt0
 have HBF0 := Lib.hid hbf0
 clear hB0 hbt0 hbf0
 have hmm := @run_makeMap Try.prog
 refine callsIn_of_wp_marks Try.func48 rfl (hF _) ?_ hro
 simp only [Try.ntmps48, List.size_toArray, List.length_cons, List.length_nil, Nat.reduceAdd, Nat.reduceSub, Array.replicate_succ, Array.replicate_zero, List.push_toArray, List.append_toArray, List.nil_append, List.cons_append]
 gi_wp2_with fail
 refine (HWF.out (n - 1) _ HB0.out).mono ?_
 rintro e W1 ⟨rfl, hB1⟩
 have hbt : BoxT W1 w.heap.size t A c := (hB1.block _ (blk_lt HBT0.out)).trans HBT0.out
 have hbf := Lib.hid ((hB1.block _ HBF0.out.lt).trans HBF0.out : Boxed W1 (w.heap.size + 1) 73 (.func (.func 49) #[] #[]))
 have hBW := Lib.hid (below_trans HB0.out hB1)
 have c0 : W1.cell? ⟨w.heap.size, 0, none⟩ = some (.int .i64 t.f0) := (yE hbt 0).trans rfl
 have c1 : W1.cell? ⟨w.heap.size, 1, none⟩ = some (.string t.f1) := (yE hbt 1).trans rfl
 have c2 : W1.cell? ⟨w.heap.size, 2, none⟩ = some (.int .i64 t.f2) := (yE hbt 2).trans rfl
 have c3 : W1.cell? ⟨w.heap.size, 3, none⟩ = some (.slice A t.f3.length c) := (yE hbt 3).trans rfl
 have hz : w.heap.size < W1.heap.size := blk_lt hbt
 have hz1 : w.heap.size + 1 < W1.heap.size := Boxed.lt hbf.out
 have hz2 : w.heap.size < W1.heap.size + 1 := by omega
 have hz3 : w.heap.size < W1.heap.size + 1 + 1 := by omega
 clear hbt hB1 HB0 HBT0 HBF0 HWF
 gi_wp2_with (gi_at_call 23; refine (nodes_in F (n - 1) hF hro _ _ _ _).mono ?_; rintro e w' ⟨rfl, rfl⟩)
 have hst : Hid (constsInv w ((((W1.alloc (.cells #[.slice none 0 0] 54)).alloc (.map #[] 0)).alloc (.cells #[.map (some (W1.heap.size + 1))] 88)).alloc (.cells #[.int .i64 t.f0, .string t.f1, .int .i64 t.f2, .slice A t.f3.length c] 25)) W1.heap.size (w.heap.size + 1) (W1.heap.size + 1 + 1) (W1.heap.size + 1) [] ∧
   BoxT ((((W1.alloc (.cells #[.slice none 0 0] 54)).alloc (.map #[] 0)).alloc (.cells #[.map (some (W1.heap.size + 1))] 88)).alloc (.cells #[.int .i64 t.f0, .string t.f1, .int .i64 t.f2, .slice A t.f3.length c] 25)) (W1.heap.size + 1 + 1 + 1) t A c ∧ ((((W1.alloc (.cells #[.slice none 0 0] 54)).alloc (.map #[] 0)).alloc (.cells #[.map (some (W1.heap.size + 1))] 88)).alloc (.cells #[.int .i64 t.f0, .string t.f1, .int .i64 t.f2, .slice A t.f3.length c] 25)).heap.size = W1.heap.size + 4) := by
  refine Lib.hid ⟨⟨⟨_, (((Boxed.new W1 54 (.slice none 0 0)).alloc _).alloc _).alloc _, World.ownsRow_nil _ _ _ _⟩, (((Boxed.alloc hbf.out _).alloc _).alloc _).alloc _, ?_, ?_, yF (yF (yF (yF hBW.out _) _) _) _⟩, ?_, by simp⟩
  ·refine Boxed.alloc ?_ _
   have := Boxed.new ((W1.alloc (.cells #[.slice none 0 0] 54)).alloc (.map #[] 0)) 88 (.map (some (W1.heap.size + 1)))
   rwa [World.size_alloc, World.size_alloc] at this
  ·have := ((SetIs.made (W1.alloc (.cells #[.slice none 0 0] 54)) Try.prog 9 4).alloc (.cells #[.map (some (W1.heap.size + 1))] 88)).alloc (.cells #[.int .i64 t.f0, .string t.f1, .int .i64 t.f2, .slice A t.f3.length c] 25)
   rwa [World.size_alloc] at this
  ·have := World.alloc_heap_new (((W1.alloc (.cells #[.slice none 0 0] 54)).alloc (.map #[] 0)).alloc (.cells #[.map (some (W1.heap.size + 1))] 88)) (.cells #[.int .i64 t.f0, .string t.f1, .int .i64 t.f2, .slice A t.f3.length c] 25)
   rwa [World.size_alloc, World.size_alloc, World.size_alloc] at this
 obtain ⟨hI0, hb2, hsz⟩ := hst.out
 have hB0 := hI0.b
 have hw1 : w.heap.size ≤ W1.heap.size := Nat.le_of_lt hz
 clear c0 c1 c2 c3 hmm hst
 generalize (((W1.alloc (.cells #[.slice none 0 0] 54)).alloc (.map #[] 0)).alloc (.cells #[.map (some (W1.heap.size + 1))] 88)).alloc (.cells #[.int .i64 t.f0, .string t.f1, .int .i64 t.f2, .slice A t.f3.length c] 25) = W0 at hI0 hb2 hsz hB0 ⊢
 refine wpIn_rangeFunc_ownH hro h1 (gf := 43) (lb := #[.pointer (some ⟨W1.heap.size + 1 + 1 + 1, 0, none⟩)]) rfl (hF _) (enters_of Try.func43 (by kernel_rfl) rfl)
  (nodes_stops_p constsP F hd (n - 1) hF hro (W1.heap.size + 1 + 1 + 1) t hft A c w W0 hB0 HL.out hb2 (by have := (Bool.and_eq_true_iff.mp hfit).2; exact this)) Kp.trans (kp_b (by omega)) (Below.refl _ _) (fun _ => rfl)
  (fun pre W => constsInv w W W1.heap.size (w.heap.size + 1) (W1.heap.size + 1 + 1) (W1.heap.size + 1) (constsAt pre))
  (fun _ _ _ => False)
  (constsInv.own constsAt (by omega) (by omega))
  (fun _ _ _ _ _ hs _ _ => hs)
  hI0
  (fun x a' W => ∃ Bx, BoxT W Bx x.1.t x.1.A x.1.c ∧ a' = { tmps := #[tv t A c, .func (.func 49) #[] #[], .pointer (some ⟨w.heap.size, 0, none⟩), .pointer (some ⟨w.heap.size + 1, 0, none⟩), .slice none 0 0, .pointer (some ⟨W1.heap.size, 0, none⟩), .pointer (some ⟨W1.heap.size + 1 + 1, 0, none⟩), undef, .pointer (some ⟨Bx, 0, none⟩), undef, undef, tv t A c, .int .i64 0, .bool false, .map (some (W1.heap.size + 1)), tv t A c, .func (.func 43) #[] #[.pointer (some ⟨W1.heap.size + 1 + 1 + 1, 0, none⟩)], .int .i64 x.1.b, tv x.1.t x.1.A x.1.c, undef, undef, undef, undef, undef, undef, undef, undef, undef, undef, undef, undef, undef, undef, undef, undef, undef, undef, undef, undef], defers := [] })
  (fun x a' s W W' row hs hg hr => by obtain ⟨Bx, hb, rfl⟩ := hs; exact ⟨Bx, box_own () W W' row hb hg hr, rfl⟩)
  ?assign ?body ?done ?stop
 case assign =>
  rintro l pre x W K hI hK
  have HK := Lib.hid hK
  have HI := Lib.hid hI
  clear hK hI
  simp only [Nv.encs]
  gi_wp2
  refine HK.out _ _ ((KeepsOthers.alloc _ _).from _) (Kp.alloc HI.out.b.size _) (HI.out.below (yF (Below.refl _ _) _)) ⟨W.heap.size, World.alloc_heap_new _ _, rfl⟩
 case body =>
  rintro l pre ⟨x, hxp⟩ a' W hl hrec hI ⟨Bx, hbx, rfl⟩ hlt
  dsimp only at hbx ⊢
  have cf := hI.f.cell
  have hx0 : W.cell? ⟨Bx, 0, none⟩ = some (.int .i64 x.t.f0) := (yE hbx 0).trans rfl
  have hx1 : W.cell? ⟨Bx, 1, none⟩ = some (.string x.t.f1) := (yE hbx 1).trans rfl
  have hx2 : W.cell? ⟨Bx, 2, none⟩ = some (.int .i64 x.t.f2) := (yE hbx 2).trans rfl
  have hx3 : W.cell? ⟨Bx, 3, none⟩ = some (.slice x.A x.t.f3.length x.c) := (yE hbx 3).trans rfl
  have HI := Lib.hid hI
  have hlim : pre.length < 1000000000000 := by have := of_decide_eq_true (Bool.and_eq_true_iff.mp hfit).1; omega
  have HLM := Lib.hid hlim
  have HXP := Lib.hid hxp
  have HLT := Lib.hid hlt
  clear hI hbx hrec hlt hlim
  by_cases k6 : x.t.f0 = 4
  ·have HK6 := Lib.hid k6
   have hb : Hid ((x.t.f0 == 4) = true) := Lib.hid (beq_iff_eq.mpr k6)
   clear k6
   gi_wp2_with fail
   refine (CallsIn.inRound l (HOF.out _ x.t x.A x.c W true hb)).mono ?_
   rintro e W2 ⟨rfl, hB2⟩
   have HB2 := Lib.hid hB2
   have HI2 := Lib.hid (HI.out.below hB2)
   have hm := HI2.out.m.cell
   have KEYD := string_keyed Try.underlying9
   have hkw : keyOf Try.prog 9 (.string x.t.f1) = some ((fun s => Lit.string s.data.toList) x.t.f1) := (by rw [keyOf_string Try.underlying9]; unfold mapKey; rw [Try.underlying9]; exact if_pos (constsP_fit x HXP.out HK6.out))
   have hik : WideAt.IsKeyLit ((fun s => Lit.string s.data.toList) x.t.f1) := trivial
   by_cases hs : (fun s => Lit.string s.data.toList) x.t.f1 ∈ constsKeys (constsAt pre)
   ·have hlook := HI2.out.s.look (t := 88) KEYD Try.underlying88 Try.underlying4 (Try.zeroValue4 _) hkw hik true (by simpa using hs)
    have HS := Lib.hid hs
    clear hB2 hs hkw hik
    gi_wp2_with fail
    exact ⟨kf_below HB2.out _, kp_below HB2.out HI.out.b.size, by show constsInv _ _ _ _ _ _ (constsAt (pre ++ [⟨x, hxp⟩])); rw [constsAt_hit pre ⟨x, hxp⟩ HK6.out HS.out]; exact HI2.out⟩
   ·have hlook := HI2.out.s.look (t := 88) KEYD Try.underlying88 Try.underlying4 (Try.zeroValue4 _) hkw hik false (by simpa using hs)
    obtain ⟨W3, hput, hS3, hg3⟩ := HI2.out.s.put (t := 88) KEYD Try.underlying88 Try.underlying4 (by have := constsAt_len pre; have := HLM.out; unfold maxLen; omega) hkw hik
    have HS := Lib.hid hs
    obtain ⟨es, cl, hmap⟩ := SetIs_map HI2.out.s
    obtain ⟨⟨v, hv, hrow⟩, _⟩ := HI2.out
    have hvW : Boxed W3 W1.heap.size 54 v := hv.kept hg3 (by intro e; have := Option.some.inj e; omega)
    have hrw : W3.ownsRow w.heap.size 9 1 v (constsAt pre).length ((constsAt pre).map (Value.string)) := hrow.kept hg3 (.inr (fun e => by
     obtain ⟨cells, hcs⟩ := own_typed hrow _ e
     exact absurd (hcs.symm.trans hmap) (by intro e; cases e)))
    have hvc := hvW.cell
    have hpl := constsAt_len pre
    have hsz3 : w.heap.size ≤ W3.heap.size := Nat.le_trans HI2.out.b.size hg3.size
    have HHH := Lib.hid (And.intro hv (And.intro hrow (And.intro hS3 (And.intro hg3 (And.intro hpl (And.intro hsz3 (And.intro hrw hvW)))))))
    obtain ⟨i0, hi, hz0, hz1, hz2⟩ := info_parts consts_info
    have HH2 := Lib.hid (And.intro hi (And.intro hz0 (And.intro hz1 hz2)))
    clear hB2 hs hkw hik hmap hv hrow hS3 hg3 hpl hsz3 hrw hvW hi hz0 hz1 hz2
    gi_wp2_with (gi_at_builtin; refine wpListIn_append_own _ rfl _ _ 54 rfl w.heap.size 9 i0 (.string ⟨#[]⟩) 1 16 Try.underlying54 HH2.out.1 HH2.out.2.1 HH2.out.2.2.1 HH2.out.2.2.2 rfl (by decide) _ _ _ rfl (HHH.out.2.2.2.2.2.2.1.alloc _) ⟨W3.heap.size, 0, none⟩ 1 1 [.string x.t.f1] rfl rfl (cell_one_new _ _ _) (by simp [Value.oneCell']) (by have := HHH.out.2.2.2.2.1; have := HLM.out; unfold maxLen; omega) (by have := HHH.out.2.2.2.2.1; have := HLM.out; omega) (by have := HHH.out.2.2.2.2.2.1; simp; omega) ?_; intro v' w1 hown' hgrow _; obtain ⟨g', cap', rfl⟩ := ownsRow_succ hown'; have HN := Lib.hid (And.intro hown' hgrow); obtain ⟨hv1, _⟩ := HHH.out.2.2.2.2.2.2.2.appended (by decide) HHH.out.2.2.2.2.2.2.1 HHH.out.2.2.2.2.2.1 (by omega) hown' hgrow; have hc1 := hv1.cell; have hf1 := hv1.frozen; clear hown' hgrow)
    have hadd := constsInv.add (Bo := W1.heap.size) (Bf := w.heap.size + 1) (Bm := W1.heap.size + 1 + 1) (bm := W1.heap.size + 1) (u := x.t.f1) W0.heap.size (by omega) hw1 (by omega) (by omega) (by omega) HI2.out HHH.out.1 HHH.out.2.1 HHH.out.2.2.2.1 HHH.out.2.2.1 HN.out.1 HN.out.2
    exact ⟨(kf_below HB2.out _).trans hadd.1, (kp_below HB2.out HI.out.b.size).trans hadd.2.1, by show constsInv _ _ _ _ _ _ (constsAt (pre ++ [⟨x, hxp⟩])); rw [constsAt_new pre ⟨x, hxp⟩ HK6.out HS.out]; exact hadd.2.2⟩
  ·have HX := Lib.hid (constsAt_miss pre ⟨x, hxp⟩ k6)
   have hb : Hid ((x.t.f0 == 4) = false) := Lib.hid (beq_eq_false_iff_ne.mpr k6)
   clear k6
   gi_wp2_with fail
   refine (CallsIn.inRound l (HOF.out _ x.t x.A x.c W false hb)).mono ?_
   rintro e W2 ⟨rfl, hB2⟩
   have HB2 := Lib.hid hB2
   clear hB2
   gi_wp2_with fail
   exact ⟨kf_below HB2.out _, kp_below HB2.out HI.out.b.size, by show constsInv _ _ _ _ _ _ (constsAt (pre ++ [⟨x, hxp⟩])); rw [HX.out]; exact HI.out.below HB2.out⟩
 case done =>
  rintro D ys W hD hys hI hK
  obtain ⟨⟨v, hv, hrow⟩, _, _, _, hB⟩ := hI
  have hc := hv.cell
  have HA := Lib.hid (And.intro hrow (And.intro hB (And.intro hys hK)))
  clear hv hrow hB hys hK
  gi_wp2
  refine ⟨by simp, .inl ⟨_, _, rfl, run_takeDeferred HA.out.2.2.2, ?_⟩⟩
  have hy : constsAt ys = constsOf (nodesT 0 t) := by
   unfold constsAt
   rw [← HA.out.2.2.1]
  refine ⟨_, results_tmp rfl _ _ _, v, rfl, ?_, ?_⟩
  ·rw [← hy]
   exact ownsRow_putObj HA.out.1 _ HA.out.2.2.2 rfl
  ·exact HA.out.2.1.trans (belowK_b (w := w) (Nat.le_refl _) _ D _ _ (by omega) HA.out.2.2.2 rfl rfl)
 case stop =>
  rintro D c pre W _ _ h _
  exact h.elim
set_option maxHeartbeats 2000000 in
theorem consts_bad (t : Tm) (A : Option Addr) (c : Nat) (w : World) (e0 : Int) (he : e0 ≠ 0)
  (hwf : ∀ W, Below w.heap.size w W → Calls Try.prog 7 #[tv t A c] W fun e W' => e = .returned (.int .i64 e0) ∧ Below W.heap.size W W') :
  Calls Try.prog 48 #[tv t A c, .func (.func 49) #[] #[]] w fun e w' => e = .returned (.slice none 0 0) ∧ Below w.heap.size w w' := by
 have HWF := Lib.hid hwf
 have e0n : (e0 != 0) = true := bne_iff_ne.mpr he
 have hB0 : Below w.heap.size w ((w.alloc (.cells #[.int .i64 t.f0, .string t.f1, .int .i64 t.f2, .slice A t.f3.length c] 25)).alloc (.cells #[.func (.func 49) #[] #[]] 73)) := yF (yF (Below.refl _ _) _) _
 have HB0 := Lib.hid hB0
 clear hwf he hB0
 go_enter Try.func48, Try.ntmps48
 go_wp2_with fail
 refine (HWF.out _ HB0.out).mono ?_
 rintro e W1 ⟨rfl, hB1⟩
 have hBW := Lib.hid (below_trans HB0.out hB1)
 clear hB1 HB0 HWF
 go_wp2_with fail
 go_ret
 exact ⟨rfl, hBW.out⟩
theorem consts_first (k : Nat) (t : Tm) (A : Option Addr) (c : Nat) (r : List ByteArray) (w : World) (hr : lies w A t.f3) (hc : t.f3.length ≤ c)
  (h : ((term_WellFormed.f k t.f0 t.f1 t.f2 t.f3).bind fun e => if fitT t && constsFit t then (if e = 0 then some (constsOf (nodesT 0 t)) else some []) else none) = some r) :
  Calls Try.prog 48 #[tv t A c, .func (.func 49) #[] #[]] w fun e w' => ∃ v, e = .returned v ∧ w'.ownsRow w.heap.size 9 1 v r.length (r.map (Value.string)) ∧ Below w.heap.size w w' := by
 obtain ⟨e, he, h⟩ := yK h
 have hwf : ∀ W, Below w.heap.size w W → Calls Try.prog 7 #[tv t A c] W fun e' W' => e' = .returned (.int .i64 e) ∧ Below W.heap.size W W' :=
  fun W hW => term_WellFormed.calls k t.f0 t.f1 t.f2 A c t.f3 e W (Kd.C_below hr hW) hc he
 split at h
 ·next hf =>
  obtain ⟨hf1, hf2⟩ := Bool.and_eq_true_iff.mp hf
  by_cases h0 : e = 0
  ·rw [if_pos h0] at h
   cases h
   subst h0
   exact callsIn_wide.1 (consts_in Fence.wide rfl 3 (fun _ => trivial) rfl (Nat.le_refl _) t hf1 hf2 A c w hr (fun m W hW => callsIn_wide.2 (hwf W hW)) (fun m x A c W b hb => callsIn_wide.2 (consts1_any x A c W b hb)))
  ·rw [if_neg h0] at h
   cases h
   refine (consts_bad t A c w e h0 hwf).mono ?_
   rintro _ W ⟨rfl, hB⟩
   exact ⟨_, rfl, World.ownsRow_nil _ _ _ _, hB⟩
 ·cases h
def term_Consts.f (k : Nat) (a0_0 : Int) (a0_1 : ByteArray) (a0_2 : Int) (l0_3 : List Tm) : Option (List ByteArray) :=
 (term_WellFormed.f k a0_0 a0_1 a0_2 l0_3).bind fun e => if fitT ⟨a0_0, a0_1, a0_2, l0_3⟩ && constsFit ⟨a0_0, a0_1, a0_2, l0_3⟩ then (if e = 0 then some (constsOf (nodesT 0 ⟨a0_0, a0_1, a0_2, l0_3⟩)) else some []) else none
set_option maxHeartbeats 1000000 in
theorem term_Consts.calls (k : Nat) (a0_0 : Int) (a0_1 : ByteArray) (a0_2 : Int) (A0_3 : Option Addr) (c0_3 : Nat) (l0_3 : List Tm) (r : List ByteArray) (w : World) (hr0_3 : lies w A0_3 l0_3) (hc0_3 : l0_3.length ≤ c0_3) (h : term_Consts.f k a0_0 a0_1 a0_2 l0_3 = some r) :
  Calls Try.prog 29 #[.agg #[.int .i64 a0_0, .string a0_1, .int .i64 a0_2, .slice A0_3 l0_3.length c0_3]] w fun e w' => ∃ v0_ : Value, e = .returned (v0_) ∧ Kd.R (Kd.string) 9 w' w.heap.size (fun _ => True) v0_ r ∧ Below w.heap.size w w' := by
 have HF := Lib.hid (consts_first k ⟨a0_0, a0_1, a0_2, l0_3⟩ A0_3 c0_3 r (w.alloc (.cells #[.int .i64 a0_0, .string a0_1, .int .i64 a0_2, .slice A0_3 l0_3.length c0_3] 25)) (Kd.C_below hr0_3 (yF (Below.refl _ _) _)) hc0_3 h)
 clear hr0_3 h
 go_enter Try.func29, Try.ntmps29
 go_wp2_with fail
 refine HF.out.mono ?_
 rintro e W ⟨v, rfl, ho, hB⟩
 have HO := Lib.hid (And.intro ho hB)
 clear ho hB
 go_wp2_with fail
 go_ret
 exact ⟨v, rfl, Kd.R_of_own (ownsRow_lower HO.out.1 (b := w.heap.size) (by simp)) (fun _ _ => trivial), below_trans (yF (Below.refl _ _) _) HO.out.2⟩
end Go.Proofs.Ytpkkoiljombooaa.G
