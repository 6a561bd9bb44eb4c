/- lease: a call on a table. Conditions: the table lies in the call's own memory, and is good. -/
import Derived.Test.YtkgnooogppkieaaLm
namespace Go.Proofs.Ytkgnooogppkieaa
open Go.RowKit
set_option linter.unusedVariables false
set_option linter.unusedSimpArgs false
variable {w w' : World} {base n : Nat} {v : Value} {L : List Lz}

theorem goes_from {v v' : Value} {w0 w1 w2 : World} (h : Goes w1 w2 n v v') (hb : Below w0.heap.size w0 w1) : Goes w0 w2 n v v' :=
  ⟨(Touch.of_below hb).trans h.touch, fun k hk => (h.lies k hk).imp id fun h2 => Nat.le_trans hb.size h2⟩
theorem does_any (o : Op10) (h : Tab w base n v L) (hb : base ≤ w.heap.size) (hg : Good L) :
    Calls Try.prog 31 #[.pointer (some ⟨n, 0, none⟩), ov o] w fun e w' => e = .returned (.int .i64 (stepL o L).1) ∧ ∃ v', Tab w' base n v' (stepL o L).2 ∧ Goes w w' n v v' := by
  obtain ⟨kd, id, span, now⟩ := o
  have hB := Lib.hid ((Below.refl w.heap.size w).alloc (Nat.le_refl _) (.cells #[.int .i64 kd, .int .i64 id, .int .i64 span, .int .i64 now] 62))
  have hT := Lib.hid (h.alloc (.cells #[.int .i64 kd, .int .i64 id, .int .i64 span, .int .i64 now] 62))
  have hT' := hT.out
  have hl : L.length ≤ 1000 := Nat.le_trans hg.many (by omega)
  have hb' : base ≤ (w.alloc (.cells #[.int .i64 kd, .int .i64 id, .int .i64 span, .int .i64 now] 62)).heap.size := Nat.le_trans hb hB.out.size
  unfold ov
  by_cases h0 : kd = 0
  · subst h0
    obtain ⟨r, hr⟩ : ∃ r, stepL ⟨0, id, span, now⟩ L = r := ⟨_, rfl⟩
    have C := Lib.hid (show Calls Try.prog 11 #[.pointer (some ⟨n, 0, none⟩), .int .i64 id, .int .i64 span, .int .i64 now] (w.alloc (.cells #[.int .i64 0, .int .i64 id, .int .i64 span, .int .i64 now] 62)) fun e w' => e = .returned (.int .i64 r.1) ∧ ∃ v', Tab w' base n v' r.2 ∧ Goes (w.alloc (.cells #[.int .i64 0, .int .i64 id, .int .i64 span, .int .i64 now] 62)) w' n v v' from by rw [← hr]; exact open_all (id, span, now) hT' hb' hg.rises hl)
    rw [hr]
    clear hr h hT'
    go_enter Try.func31, Try.ntmps31
    go_wp2_with fail
    refine C.out.mono ?_
    rintro e w1 ⟨rfl, v1, hT1, g1⟩
    go_wp2
    go_ret
    exact ⟨rfl, v1, hT1, goes_from g1 hB.out⟩
  by_cases h1 : kd = 1
  · subst h1
    obtain ⟨r, hr⟩ : ∃ r, stepL ⟨1, id, span, now⟩ L = r := ⟨_, rfl⟩
    have C := Lib.hid (show Calls Try.prog 16 #[.pointer (some ⟨n, 0, none⟩), .int .i64 id, .int .i64 now] (w.alloc (.cells #[.int .i64 1, .int .i64 id, .int .i64 span, .int .i64 now] 62)) fun e w' => e = .returned (.int .i64 r.1) ∧ ∃ v', Tab w' base n v' r.2 ∧ Goes (w.alloc (.cells #[.int .i64 1, .int .i64 id, .int .i64 span, .int .i64 now] 62)) w' n v v' from by rw [← hr]; exact renew_all id now hT' hb' hg.rises hl)
    rw [hr]
    clear hr h hT'
    go_enter Try.func31, Try.ntmps31
    go_wp2_with fail
    refine C.out.mono ?_
    rintro e w1 ⟨rfl, v1, hT1, g1⟩
    go_wp2
    go_ret
    exact ⟨rfl, v1, hT1, goes_from g1 hB.out⟩
  by_cases h2 : kd = 2
  · subst h2
    obtain ⟨r, hr⟩ : ∃ r, stepL ⟨2, id, span, now⟩ L = r := ⟨_, rfl⟩
    have C := Lib.hid (show Calls Try.prog 17 #[.pointer (some ⟨n, 0, none⟩), .int .i64 id] (w.alloc (.cells #[.int .i64 2, .int .i64 id, .int .i64 span, .int .i64 now] 62)) fun e w' => e = .returned (.int .i64 r.1) ∧ ∃ v', Tab w' base n v' r.2 ∧ Goes (w.alloc (.cells #[.int .i64 2, .int .i64 id, .int .i64 span, .int .i64 now] 62)) w' n v v' from by rw [← hr]; exact close_all id hT' hb' hg.rises hl)
    rw [hr]
    clear hr h hT'
    go_enter Try.func31, Try.ntmps31
    go_wp2_with fail
    refine C.out.mono ?_
    rintro e w1 ⟨rfl, v1, hT1, g1⟩
    go_wp2
    go_ret
    exact ⟨rfl, v1, hT1, goes_from g1 hB.out⟩
  have e : stepL ⟨kd, id, span, now⟩ L = (0, L) := by simp [stepL, h0, h1, h2]
  rw [e]
  have e0 : (kd == 0) = false := by simpa using h0
  have e1 : (kd == 1) = false := by simpa using h1
  have e2 : (kd == 2) = false := by simpa using h2
  clear e h0 h1 h2 hT'
  go_enter Try.func31, Try.ntmps31
  go_wp2
  go_ret
  exact ⟨rfl, v, hT.out, Goes.of_below hB.out⟩
end Go.Proofs.Ytkgnooogppkieaa
