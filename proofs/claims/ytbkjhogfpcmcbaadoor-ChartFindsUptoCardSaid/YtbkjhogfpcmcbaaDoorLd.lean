/- chart: what is left of a path, joined behind the mount, is the path; plain. Conditions: none (no program). -/
import Derived.Test.YtbkjhogfpcmcbaaDoorLc
import Derived.Test.YtbkjhogfpcmcbaaDoorKb
namespace Go.Proofs.YtbkjhogfpcmcbaaDoor
open Go Go.RowKit Zn
set_option linter.unusedVariables false
set_option linter.unusedSimpArgs false
variable {w w' : World}
def joinAll (p : Nm) : List Nm → Nm
  | [] => p
  | s :: l => joinAll (joinZ p s) l
theorem joinAll_snoc (p : Nm) (l : List Nm) (s : Nm) : joinAll p (l ++ [s]) = joinZ (joinAll p l) s := by
  induction l generalizing p with
  | nil => rfl
  | cons x l ih => exact ih _
theorem joinAll_path (M R : List Nm) (h8 : (M ++ R).length ≤ 8) (hn : (M ++ R).all nameB = true) : joinAll (pathOf M) R = pathOf (M ++ R) := by
  induction R generalizing M with
  | nil => rw [List.append_nil]; rfl
  | cons s R ih =>
    have hM : namesO (pathOf M) = some M := (names_iff _ _).2 ⟨rfl, by rw [List.length_append] at h8; omega, by rw [List.all_append, Bool.and_eq_true] at hn; exact hn.1⟩
    have hs : nameB s = true := by rw [List.all_append, Bool.and_eq_true, List.all_cons, Bool.and_eq_true] at hn; exact hn.2.1
    have hlt : M.length < 8 := by rw [List.length_append, List.length_cons] at h8; omega
    have e : M ++ s :: R = (M ++ [s]) ++ R := by simp
    show joinAll (joinZ (pathOf M) s) R = _
    rw [(join_yes hM hs hlt).2, e]
    rw [e] at h8 hn
    exact ih (M ++ [s]) h8 hn
theorem best_joined {ms : List Mt} {q : ByteArray} (hr : rootB ms = true) (hq : validZ q.data.toList = true) : joinAll (bestOf ms q).p.data.toList (restOf ms q) = q.data.toList := by
  obtain ⟨_, hu⟩ := best_under hr hq
  obtain ⟨h1, h2, h3, h4⟩ := depth_under hu
  obtain ⟨L, hL⟩ := valid_some hq
  obtain ⟨M, hM⟩ := valid_some h4
  unfold restOf
  rw [h1, ls_of hM, ls_of hL, Int.toNat_natCast]
  rw [ls_of hM, ls_of hL] at h3
  obtain ⟨R, rfl⟩ := h3
  obtain ⟨e1, _, _⟩ := (names_iff _ _).1 hM
  obtain ⟨e2, h8, hn⟩ := (names_iff _ _).1 hL
  rw [List.drop_left, e1, e2]
  exact joinAll_path M R h8 hn
end Go.Proofs.YtbkjhogfpcmcbaaDoor
