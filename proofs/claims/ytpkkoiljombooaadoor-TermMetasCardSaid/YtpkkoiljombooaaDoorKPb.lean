import Derived.Test.YtpkkoiljombooaaDoorKG0
import Derived.Test.YtpkkoiljombooaaDoorKPm
import Derived.Test.YtpkkoiljombooaaDoorKPs
import Derived.Test.YtpkkoiljombooaaDoorKH4
import Derived.Test.YtpkkoiljombooaaDoorKH4b
set_option linter.unusedVariables false
set_option linter.unusedSimpArgs false
namespace Go.Proofs.YtpkkoiljombooaaDoor.G
open Go.RowKit Go.Proofs.YtpkkoiljombooaaDoorW.PrintWords Go.Proofs.YtpkkoiljombooaaDoorW.PrintLast
theorem binder_ok {n : ByteArray} (h : n ∈ namesL) : binderName n = true := by
 simp only [namesL, List.mem_cons, List.not_mem_nil, or_false] at h
 rcases h with rfl | rfl | rfl | rfl | rfl | rfl <;> kernel_rfl
theorem cname_ok {n : ByteArray} (h : n ∈ ([⟨#[122]⟩, ⟨#[115]⟩, ⟨#[99]⟩, ⟨#[97, 112, 112]⟩] : List ByteArray)) : isNameB n = true := by
 simp only [List.mem_cons, List.not_mem_nil, or_false] at h
 rcases h with rfl | rfl | rfl | rfl <;> kernel_rfl
theorem objsB_of {ts : List Tm} (h : ∀ a ∈ ts, objB a = true) : objsB ts = true := by
 rw [objsB_all]; exact List.all_eq_true.2 h
theorem mt_obj {d v m : Int} {t : Tm} (h : MT d v m t) (hd : v + d ≤ 1000) (hd0 : v ≤ 1000) (hm : m ≤ 1000) : objB t = true := by
 induction h with
 | @lam d v m n a hd1 hn ha ih =>
  simp only [objB, if_true, objsB, Bool.and_true, Bool.and_eq_true]
  exact ⟨by simp [boundB, binder_ok hn], ih (by omega) (by omega) hm⟩
 | @app d v m k n i ts hk hl h0 ht ih =>
  have hobs : objsB ts = true := objsB_of (fun a ha => by
   have hd1 := h0 (fun e => by rw [e] at ha; cases ha)
   exact ih a ha (by omega) (by omega) hm)
  rcases hk with ⟨rfl, hn, rfl⟩ | ⟨rfl, rfl, hi0, hi1⟩ | ⟨rfl, rfl, hi0, hi1⟩
  ·simp [objB, cname_ok hn, hobs]
  ·simp only [objB, Int.reduceEq, ↓reduceIte, hobs, Bool.and_true, Bool.and_eq_true, decide_eq_true_eq]
   exact ⟨by kernel_rfl, hi0, by omega⟩
  ·simp only [objB, Int.reduceEq, ↓reduceIte, hobs, Bool.and_true, Bool.and_eq_true, decide_eq_true_eq]
   exact ⟨by kernel_rfl, hi0, by omega⟩
theorem wf_of {t : Tm} (h : objB t = true) (hs : nT t ≤ 128) : wfE t = 0 := by
 have hd := dT_le_nT _ t (Nat.le_refl _)
 have : smallB t = true := by unfold smallB; simp only [Bool.and_eq_true, decide_eq_true_eq]; omega
 unfold wfE sortB
 rw [h, this]
 rfl
end Go.Proofs.YtpkkoiljombooaaDoor.G
