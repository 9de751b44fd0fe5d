import Derived.Test.YtpkkoiljombooaaDoorRows
import Derived.Test.YtpkkoiljombooaaDoorKG0
import Derived.Test.YtpkkoiljombooaaDoorKNm
import Derived.ProofKit
import Derived.LaidMore
import Derived.OpenShut
import Derived.Stop.Joined
import Derived.SliceStrings
import Derived.Handed
set_option linter.unusedVariables false
namespace Go.Proofs.YtpkkoiljombooaaDoor.G
open Go.ChangeShapes Go.WideShapes Go.ChangeAt Go.WideMaps Go.WideElems Go.RowKit Go.Proofs.YtpkkoiljombooaaDoorW.PrintWords Go.Proofs.YtpkkoiljombooaaDoorW.PrintLast
abbrev laidL : List (String × DataW Unit) := [("lfcheck/lfcheckmade.names", Rows.laid_lfcheck_lfcheckmade_names)]
theorem gNames : Tryd.prog.globalNamed "lfcheck/lfcheckmade.names" = some 0 := by kernel_rfl
theorem tNames : (Tryd.prog.globals[0]?).map (·.type) = some 36 := by kernel_rfl
theorem door_met (os : Os) (args : Array Value) : laidMetH Tryd.prog laidL ((World.doorLaid Tryd.prog 400 os).forCall (fun _ _ => 0) ⟨#[], args, []⟩).memory :=
 laidMetH_of_parts3 (fuel := 8) (laidMet_of_run' 8 (by kernel_rfl) (by kernel_rfl)) (by kernel_rfl) (by kernel_rfl)
theorem namesLaid_of {W : World} (h : laidMetH Tryd.prog laidL W) : NamesLaid W := by
 rw [MakeChecks.laidMetH_plain _ _ _ (by kernel_rfl)] at h
 obtain ⟨ps, ⟨g0, t0, cs0, f0, p0, q0, hg0, ht0, hv0, hd0, _, _⟩, _, _⟩ := h
 obtain rfl := Option.some.inj (gNames.symm.trans hg0)
 obtain rfl := Option.some.inj (tNames.symm.trans ht0)
 rcases open_strings Tryd.underlying36 Tryd.underlying9 (by kernel_rfl) hd0 with ⟨_, hx⟩ | ⟨a, len, cap, ss, hcs, _, hl, hm, hlen, hx, hcell, _⟩
 ·simp [Rows.laid_lfcheck_lfcheckmade_names] at hx
 ·have hc0 := World.var?_cell hg0 hv0 0
  have hcell0 : W.cell? ⟨0, 0, none⟩ = some (.slice (some a) len cap) := by
   rw [Array.eq_one_of_toList hcs] at hc0
   simpa using hc0
  simp only [Rows.laid_lfcheck_lfcheckmade_names, Prod.mk.injEq, DataW.slice.injEq] at hx
  have h1 := hx.1.1;have h2 := hx.1.2
  have e1 : ss.take len = namesL := by
   have : (strs (namesL) : List (DataW Unit)) = strs (ss.take len) := h1
   unfold strs at this
   exact ((List.map_inj_right (fun x y e => by injection e with e; injection e with e; cases x; cases y; simp_all)).1 this).symm
  have e2 : ss.drop len = [] := by
   unfold strs at h2
   exact (List.map_eq_nil_iff.1 h2.symm)
  have e3 : ss = namesL := by rw [← List.take_append_drop len ss, e1, e2, List.append_nil]
  have hl2 : ss.length ≤ len := List.drop_eq_nil_iff.1 e2
  have hl6 : ss.length = 6 := by rw [e3]; rfl
  have hlen6 : len = 6 := by split at hlen <;> omega
  subst hlen6
  refine ⟨a, cap, hcell0, Kd.C_of_reads (d := ByteArray.empty) (h1 := fun _ => rfl) ⟨rfl, by omega, fun _ => ⟨a, rfl, fun i hi => ?_⟩⟩⟩
  have := hcell i (by omega)
  rw [e3] at this
  exact this
end Go.Proofs.YtpkkoiljombooaaDoor.G
