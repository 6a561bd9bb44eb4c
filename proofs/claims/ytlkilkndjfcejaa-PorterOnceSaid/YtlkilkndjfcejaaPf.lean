/- porter: Tick, meant. Conditions: the client is in its bounds. -/
import Derived.Test.YtlkilkndjfcejaaPe
namespace Go.Proofs.Ytlkilkndjfcejaa
open Go Go.RowKit
set_option linter.unusedVariables false
set_option linter.unusedSimpArgs false
variable {w w' : World} {base n : Nat} {V V' : Vs} {s s' : St}

theorem Does.same (h : Pt w base n V s) (hb : Below w.heap.size w w') : Does w base n V s w' := ⟨V, h.below hb (Nat.le_refl _), Goes.of_below hb⟩
set_option maxHeartbeats 4000000 in
theorem tick_any (h : Pt w base n V s) (ho : Okay s) (hb : base ≤ w.heap.size) (hl : s.out.length ≤ 500) : Calls Try.prog 18 #[.pointer (some ⟨n, 0, none⟩)] w fun e w' => e = .returned (.tuple #[]) ∧ Does w base n V (tickS s) w' := by
  have hn := h.box.lt
  have H := Lib.hid h
  have p5 : w.cell? ⟨n, 5, none⟩ = some (.bool s.busy) := (h.box).cell 5
  have p25 : w.cell? ⟨n, 25, none⟩ = some (.int .i64 s.wait) := (h.box).cell 25
  have p1 : w.cell? ⟨n, 1, none⟩ = some (.int .i64 s.pa) := (h.box).cell 1
  have f25 := h.box.frozen 25
  cases hbz : s.busy
  · have ht : tickS s = s := by simp [tickS, hbz]
    rw [ht]
    rw [hbz] at p5
    clear h ho
    go_enter Try.func18, Try.ntmps18
    go_wp2
    refine bodyPost_ret (results_none rfl _ _ _) rfl ?_
    exact ⟨rfl, Does.same H.out (Below.refl _ _)⟩
  · obtain ⟨s1, hs1⟩ : ∃ s1 : St, s1 = { s with wait := s.wait + 1 } := ⟨_, rfl⟩
    obtain ⟨b1, b2, b3⟩ := ho.busy hbz
    have ht : tickS s = if s.pa ≤ s.wait + 1 then onS s1 else s1 := by rw [tickS, if_pos hbz, hs1]
    have hf : Fit s1 := by rw [hs1]; exact ⟨ho.fit.len, ho.fit.few, ho.fit.vol, ho.fit.many, ho.fit.guess, ho.fit.nu0, ho.fit.nu1, by show (0 : Int) ≤ s.wait + 1; have := ho.fit.wait0; omega, by show s.wait + 1 ≤ s.pa; omega, ho.fit.pa0, ho.fit.pa, ho.fit.vain0, ho.fit.vain1, ho.fit.done⟩
    have HP := Lib.hid (h.put 25 (.int .i64 (s.wait + 1)) s1 (by rw [hs1]; rfl) (by rw [hs1]) (by rw [hs1]) (by rw [hs1]) (by rw [hs1]))
    have HT := Lib.hid ((Touch.refl (Of n V) w).setCell (p := ⟨n, 25, none⟩) (.inl rfl) (.int .i64 (s.wait + 1)))
    have HF := Lib.hid hf
    have HL1 := Lib.hid (show s1.out.length ≤ 500 by rw [hs1]; exact hl)
    have HD1 := Lib.hid (show s1.done = [] by rw [hs1]; exact b3)
    have w0 := ho.fit.wait0
    have w1 := ho.fit.wait1
    have pa := ho.fit.pa
    rw [ht]
    rw [hbz] at p5
    clear h ho hs1 hf b1 b2 b3 ht
    by_cases hv : s.pa ≤ s.wait + 1
    · rw [if_pos hv]
      go_enter Try.func18, Try.ntmps18
      go_wp2_with fail
      go_quiet (fail)
      go_wp2_with fail
      refine (on_any (HP.out.drewN nq) HF.out (by show base ≤ (w.setCell _ _).heap.size; simpa using hb) HL1.out HD1.out).mono ?_
      rintro e w2 ⟨rfl, V2, hP2, hG2⟩
      have HG := Lib.hid hG2
      have HP2 := Lib.hid hP2
      clear hG2 hP2
      go_wp2
      go_end0
      exact ⟨rfl, V2, HP2.out, Goes.trans ⟨HT.out.drewN nq, fun _ hk => .inl hk⟩ HG.out⟩
    · rw [if_neg hv]
      go_enter Try.func18, Try.ntmps18
      go_wp2_with fail
      go_quiet (fail)
      go_wp2_with fail
      go_end0
      exact ⟨rfl, V, HP.out.drewN nq, HT.out.drewN nq, fun _ hk => .inl hk⟩
set_option maxHeartbeats 4000000 in
theorem meant_any (r : Rp) (h : Pt w base n V s) (ho : Okay s) : Calls Try.prog 33 #[.pointer (some ⟨n, 0, none⟩), .agg (rp r)] w fun e w' => e = .returned (.bool (meantB s r)) ∧ Below w.heap.size w w' := by
  have hn := h.box.lt
  have H := Lib.hid h
  have p5 : w.cell? ⟨n, 5, none⟩ = some (.bool s.busy) := (h.box).cell 5
  have p6 : w.cell? ⟨n, 6, none⟩ = some (.int .i64 (s.vol : Nat)) := (h.box).cell 6
  have p3 : w.cell? ⟨n, 3, none⟩ = some (V.g) := (h.box).cell 3
  have p0 : w.cell? ⟨n, 0, none⟩ = some (.int .i64 s.cl) := (h.box).cell 0
  have p4 : w.cell? ⟨n, 4, none⟩ = some (.int .i64 s.nu) := (h.box).cell 4
  obtain ⟨g, cg, hvg, hgb, hgl, hvl, _, hgc, _⟩ := own_at1 h.rg s.vol (gv s) ho.fit.gat
  rw [hvg] at p3
  obtain ⟨x, hxx⟩ : ∃ x, x = gv s := ⟨_, rfl⟩
  rw [← hxx] at hgc
  have hm : meantB s r = (s.busy && r.vol == (s.vol : Nat) && r.srv == x && r.cl == s.cl && r.nu == s.nu) := by rw [meantB, hxx]
  rw [hm]
  clear h ho hm hvg hxx H
  cases h5 : s.busy
  · rw [h5] at p5
    go_enter Try.func33, Try.ntmps33
    go_wp2_with fail
    go_quiet (fail)
    go_wp2_with fail
    go_ret
    exact ⟨rfl, Below.drewN ((Below.refl _ _).alloc (Nat.le_refl _) _) nq⟩
  · rw [h5] at p5
    cases h1 : r.vol == ((s.vol : Nat) : Int)
    · go_enter Try.func33, Try.ntmps33
      go_wp2_with fail
      go_quiet (fail)
      go_wp2_with fail
      go_ret
      exact ⟨rfl, Below.drewN ((Below.refl _ _).alloc (Nat.le_refl _) _) nq⟩
    · cases h2 : r.srv == x
      · go_enter Try.func33, Try.ntmps33
        go_wp2_with fail
        go_quiet (fail)
        go_wp2_with fail
        go_ret
        exact ⟨rfl, Below.drewN ((Below.refl _ _).alloc (Nat.le_refl _) _) nq⟩
      · cases h3 : r.cl == s.cl
        · go_enter Try.func33, Try.ntmps33
          go_wp2_with fail
          go_quiet (fail)
          go_wp2_with fail
          go_ret
          exact ⟨rfl, Below.drewN ((Below.refl _ _).alloc (Nat.le_refl _) _) nq⟩
        · go_enter Try.func33, Try.ntmps33
          go_wp2_with fail
          go_quiet (fail)
          go_wp2_with fail
          go_ret
          exact ⟨by simp, Below.drewN ((Below.refl _ _).alloc (Nat.le_refl _) _) nq⟩
end Go.Proofs.Ytlkilkndjfcejaa
