/- porter: what holds at all times; there, Busy, Guess, Out, Done. Conditions: as in each statement. -/
import Derived.Test.YtlkilkndjfcejaaPa
namespace Go.Proofs.Ytlkilkndjfcejaa
open Go Go.RowKit
set_option linter.unusedVariables false
set_option linter.unusedSimpArgs false
variable {w w' : World} {base n : Nat} {V V' : Vs} {s s' : St}

theorem mod_in {g m : Int} (hg : 0 ≤ g ∧ g < m) : 0 ≤ (g + 1) % m ∧ (g + 1) % m < m := ⟨Int.emod_nonneg _ (by omega), Int.emod_lt_of_pos _ (by omega)⟩
theorem set_guess (hg : ∀ (i : Nat) (m g : Int), s.many[i]? = some m → s.guess[i]? = some g → 0 ≤ g ∧ g < m) (x : Int) (hx : ∀ m, s.many[s.vol]? = some m → 0 ≤ x ∧ x < m) :
    ∀ (i : Nat) (m g : Int), s.many[i]? = some m → (s.guess.set s.vol x)[i]? = some g → 0 ≤ g ∧ g < m := by
  intro i m g hm hgi
  by_cases e : s.vol = i
  · subst e
    have hlt : s.vol < s.guess.length := by
      have := (List.getElem?_eq_some_iff.1 hgi).1
      rwa [List.length_set] at this
    rw [List.getElem?_set_self hlt] at hgi
    obtain rfl : x = g := by simpa using hgi
    exact hx m hm
  · rw [List.getElem?_set_ne e] at hgi
    exact hg i m g hm hgi
theorem Fit.ask (h : Fit s) : Fit (askS s) := ⟨h.len, h.few, h.vol, h.many, h.guess, h.nu0, h.nu1, by show (0 : Int) ≤ 0; omega, by show (0 : Int) ≤ s.pa; have := h.pa0; omega, h.pa0, h.pa, h.vain0, h.vain1, h.done⟩
theorem Fit.end_ (h : Fit s) (r : Rs) : Okay (endS s r) := ⟨⟨h.len, h.few, h.vol, h.many, h.guess, h.nu0, h.nu1, h.wait0, h.wait1, h.pa0, h.pa, h.vain0, h.vain1, by simp [endS]⟩, fun e => by cases e⟩
theorem Fit.on (h : Fit s) (hv : s.vain < 3 * mv s) (hd : s.done = []) : Okay (onS s) := by
  have hm := h.mv_in
  have hg := h.gv_in
  have h1 := h.vain0
  have hf : Fit { s with vain := s.vain + 1 } := ⟨h.len, h.few, h.vol, h.many, h.guess, h.nu0, h.nu1, h.wait0, h.wait1, h.pa0, h.pa, by show (0 : Int) ≤ s.vain + 1; omega, by show s.vain + 1 ≤ 21; omega, h.done⟩
  unfold onS
  split
  · exact hf.end_ _
  · rename_i hc
    have hf2 : Fit { s with vain := s.vain + 1, guess := s.guess.set s.vol ((gv s + 1) % mv s) } := ⟨by show (s.guess.set _ _).length = _; rw [List.length_set]; exact h.len, h.few, h.vol, h.many, set_guess h.guess _ (fun m hm' => by
      rw [h.mat] at hm'
      obtain rfl := Option.some.inj hm'
      exact mod_in hg), h.nu0, h.nu1, h.wait0, h.wait1, h.pa0, h.pa, hf.vain0, hf.vain1, h.done⟩
    exact ⟨hf2.ask, fun _ => ⟨h.pa0, by show s.vain + 1 < 3 * mv s; omega, hd⟩⟩
theorem Okay.tick (h : Okay s) : Okay (tickS s) := by
  unfold tickS
  split
  · rename_i hb
    obtain ⟨h1, h2, h3⟩ := h.busy hb
    have hf : Fit { s with wait := s.wait + 1 } := ⟨h.fit.len, h.fit.few, h.fit.vol, h.fit.many, h.fit.guess, h.fit.nu0, h.fit.nu1, by show (0 : Int) ≤ s.wait + 1; have := h.fit.wait0; omega, by show s.wait + 1 ≤ s.pa; omega, h.fit.pa0, h.fit.pa, h.fit.vain0, h.fit.vain1, h.fit.done⟩
    split
    · exact hf.on h2 h3
    · exact ⟨hf, fun _ => ⟨by show s.wait + 1 < s.pa; omega, h2, h3⟩⟩
  · exact h
theorem Okay.take (h : Okay s) (r : Rp) : Okay (takeS s r) := by
  unfold takeS
  split
  · rename_i hb
    have hb2 : s.busy = true := by simp only [meantB, Bool.and_eq_true] at hb; exact hb.1.1.1.1
    obtain ⟨h1, h2, h3⟩ := h.busy hb2
    split
    · exact h.fit.on h2 h3
    · exact h.fit.end_ _
  · exact h
theorem Okay.start (h : Okay s) (v : Int) (c : Cl) (hn : s.nu < 100000) : Okay (startS s v c) := by
  unfold startS
  split
  · rename_i hb
    simp only [startB, thereB, Bool.and_eq_true, decide_eq_true_eq, List.isEmpty_iff] at hb
    obtain ⟨⟨⟨⟨h1, h2⟩, h3, h4⟩, h5⟩, h6⟩ := hb
    have hvl : v.toNat < s.many.length := by omega
    have hm := h.fit.many v.toNat (s.many[v.toNat]) (List.getElem?_eq_getElem hvl)
    have hf : Fit { s with nu := s.nu + 1, busy := true, vol := v.toNat, c := { c with cl := s.cl, nu := s.nu + 1 }, vain := 0 } := ⟨h.fit.len, h.fit.few, hvl, h.fit.many, h.fit.guess, by show (0 : Int) ≤ s.nu + 1; have := h.fit.nu0; omega, by show s.nu + 1 ≤ 100000; omega, h.fit.wait0, h.fit.wait1, h.fit.pa0, h.fit.pa, by show (0 : Int) ≤ 0; omega, by show (0 : Int) ≤ 21; omega, h.fit.done⟩
    refine ⟨hf.ask, fun _ => ⟨h.fit.pa0, ?_, h2⟩⟩
    show (0 : Int) < 3 * s.many.getD v.toNat 0
    rw [List.getD_eq_getElem?_getD, List.getElem?_eq_getElem hvl]
    show (0 : Int) < 3 * s.many[v.toNat]
    omega
  · exact h
def outS (s : St) : St := { s with out := [] }
def doneS (s : St) : St := { s with done := [] }
theorem Okay.out (h : Okay s) : Okay (outS s) := ⟨⟨h.fit.len, h.fit.few, h.fit.vol, h.fit.many, h.fit.guess, h.fit.nu0, h.fit.nu1, h.fit.wait0, h.fit.wait1, h.fit.pa0, h.fit.pa, h.fit.vain0, h.fit.vain1, h.fit.done⟩, h.busy⟩
theorem Okay.done (h : Okay s) : Okay (doneS s) := ⟨⟨h.fit.len, h.fit.few, h.fit.vol, h.fit.many, h.fit.guess, h.fit.nu0, h.fit.nu1, h.fit.wait0, h.fit.wait1, h.fit.pa0, h.fit.pa, h.fit.vain0, h.fit.vain1, by simp [doneS]⟩, fun e => ⟨(h.busy e).1, (h.busy e).2.1, rfl⟩⟩

theorem there_any (v : Int) (h : Pt w base n V s) : Calls Try.prog 30 #[.pointer (some ⟨n, 0, none⟩), .int .i64 v] w fun e w' => e = .returned (.bool (thereB s v)) ∧ w = w' := by
  obtain ⟨am, cm, hm, _⟩ := own_shape h.rm
  have p2 : w.cell? ⟨n, 2, none⟩ = some (V.m) := (h.box).cell 2
  rw [hm] at p2
  have hn := h.box.lt
  unfold thereB
  clear h hm
  by_cases h0 : 0 ≤ v
  · by_cases h1 : v < (s.many.length : Int)
    · have d0 : decide (0 ≤ v) = true := decide_eq_true h0
      have d1 : decide (v < (s.many.length : Int)) = true := decide_eq_true h1
      rw [d0, d1]
      go_enter Try.func30, Try.ntmps30
      go_wp2
      go_ret
      exact ⟨rfl, rfl⟩
    · have d0 : decide (0 ≤ v) = true := decide_eq_true h0
      have d1 : decide (v < (s.many.length : Int)) = false := decide_eq_false h1
      rw [d0, d1]
      go_enter Try.func30, Try.ntmps30
      go_wp2
      go_ret
      exact ⟨rfl, rfl⟩
  · have d0 : decide (0 ≤ v) = false := decide_eq_false h0
    rw [d0]
    go_enter Try.func30, Try.ntmps30
    go_wp2
    go_ret
    exact ⟨rfl, rfl⟩
theorem busy_any (h : Pt w base n V s) : Calls Try.prog 22 #[.pointer (some ⟨n, 0, none⟩)] w fun e w' => e = .returned (.bool s.busy) ∧ w = w' := by
  have p5 : w.cell? ⟨n, 5, none⟩ = some (.bool s.busy) := (h.box).cell 5
  have hn := h.box.lt
  clear h
  go_enter Try.func22, Try.ntmps22
  go_wp2
  go_ret
  exact ⟨rfl, rfl⟩
theorem out_any (h : Pt w base n V s) : Calls Try.prog 21 #[.pointer (some ⟨n, 0, none⟩)] w fun e w' => e = .returned V.o ∧ Pt w' base n { V with o := .slice none 0 0 } (outS s) ∧ Goes w w' n V { V with o := .slice none 0 0 } ∧ ∀ k, k ≠ n → w'.heap[k]? = w.heap[k]? := by
  have p27 : w.cell? ⟨n, 27, none⟩ = some (V.o) := (h.box).cell 27
  have hn := h.box.lt
  have f27 := h.box.frozen 27
  have H := Lib.hid h
  clear h
  go_enter Try.func21, Try.ntmps21
  go_wp2
  go_ret
  have hne : ∀ (T : TypeId) (N : Nat) (u : Value) (k : Nat) (xs : List Value), T ≠ 98 → w.ownsRow base T N u k xs → ∀ i, u.ownBlock = some i → (w.setCell ⟨n, 27, none⟩ (.slice none 0 0)).heap[i]? = w.heap[i]? := fun T N u k xs hT ho i hi =>
    Below.heap_setCell _ _ _ _ (fun e => own_box_ne ho H.out.box hT (hi.trans (congrArg some e)))
  refine ⟨rfl, ⟨H.out.box.set 27 _, own_stays H.out.rm (hne _ _ _ _ _ (by decide) H.out.rm), own_stays H.out.rg (hne _ _ _ _ _ (by decide) H.out.rg), World.ownsRow_nil _ _ _ _, own_stays H.out.rd (hne _ _ _ _ _ (by decide) H.out.rd), H.out.dis, H.out.hn⟩, ⟨(Touch.refl _ w).setCell (.inl rfl) _, fun k hk => ?_⟩, fun k hk => Below.heap_setCell _ _ _ _ hk⟩
  rcases hk with h1 | h1 | h1 | h1 | h1
  · exact .inl (.inl h1)
  · exact .inl (.inr (.inl h1))
  · exact .inl (.inr (.inr (.inl h1)))
  · cases h1
  · exact .inl (.inr (.inr (.inr (.inr h1))))
theorem guess_any (v : Int) (h : Pt w base n V s) (ho : Fit s) : Calls Try.prog 24 #[.pointer (some ⟨n, 0, none⟩), .int .i64 v] w fun e w' => e = .returned (.int .i64 (if thereB s v then s.guess.getD v.toNat 0 else -1)) ∧ w = w' := by
  have C1 := Lib.hid (there_any v h)
  cases hb : thereB s v
  · rw [hb] at C1
    clear h
    go_enter Try.func24, Try.ntmps24
    go_wp2_with fail
    refine C1.out.mono ?_
    rintro e w1 ⟨rfl, rfl⟩
    go_wp2
    go_ret
    exact ⟨rfl, rfl⟩
  · rw [hb] at C1
    simp only [thereB, Bool.and_eq_true, decide_eq_true_eq] at hb
    obtain ⟨k, rfl⟩ : ∃ k : Nat, v = (k : Int) := ⟨v.toNat, by omega⟩
    have hk : k < s.guess.length := by rw [ho.len]; omega
    obtain ⟨g, cap, hg, _, hgl, _, _, hc, _⟩ := own_at1 h.rg k (s.guess[k]) (List.getElem?_eq_getElem hk)
    obtain ⟨x, hx⟩ : ∃ x, x = s.guess[k] := ⟨_, rfl⟩
    have he : s.guess.getD k 0 = x := by rw [hx, List.getD_eq_getElem?_getD, List.getElem?_eq_getElem hk]; rfl
    have p3 : w.cell? ⟨n, 3, none⟩ = some (V.g) := (h.box).cell 3
    rw [hg] at p3
    rw [← hx] at hc
    have hn := h.box.lt
    simp only [if_true, Int.toNat_natCast]
    rw [he]
    clear h hg hb hx he
    go_enter Try.func24, Try.ntmps24
    go_wp2_with fail
    refine C1.out.mono ?_
    rintro e w1 ⟨rfl, rfl⟩
    go_wp2
    go_ret
    exact ⟨rfl, rfl⟩
end Go.Proofs.Ytlkilkndjfcejaa
