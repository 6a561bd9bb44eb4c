/- porter: PorterEnds, the walk. Conditions: none. -/
import Derived.Test.YtlkilkndjfcejaaPo
import Derived.Test.YtlkilkndjfcejaaOpenS
namespace Go.Proofs.Ytlkilkndjfcejaa
open Go Go.RowKit Go.ChangeShapes Go.WideShapes Go.ChangeAt
set_option linter.unusedVariables false
set_option linter.unusedSimpArgs false
variable {w w' : World} {base n : Nat} {V V' : Vs} {s s' : St}

/-- replies that come in. -/
def RepsAt (w : World) (a : Option Addr) (len : Nat) (rs : List Rp) : Prop := RowsAt w 18 a len (rs.map rpl) ∧ ∀ r ∈ rs, Strs w r.a
theorem rows_rp {W : World} {l : List (List Value)} (h : ∀ r ∈ l, ∃ o : Rp, r = rpl o ∧ Strs W o.a) : ∃ os : List Rp, l = os.map rpl ∧ ∀ o ∈ os, Strs W o.a := by
  induction l with
  | nil => exact ⟨[], rfl, by simp⟩
  | cons r l ih =>
    obtain ⟨p, rfl, hp⟩ := h r (by simp)
    obtain ⟨ps, rfl, hps⟩ := ih fun r hr => h r (by simp [hr])
    exact ⟨p :: ps, rfl, fun z hz => (List.mem_cons.1 hz).elim (fun e => e ▸ hp) (hps z)⟩
set_option maxRecDepth 100000 in
theorem open_reps {H : Type} {enc : TypeId × Value → H} {W : World} {base : Nat} {v : Value} {d : DataW H} {p : List MemPlace} (hv : Value.okWide Try.prog W .any base 88 v) (h : DataW.Trod enc Try.prog W 0 (fun _ => true) true 88 v d p) :
    ∃ a len cap rs, v = .slice a len cap ∧ RepsAt W a len rs ∧ len ≤ cap ∧ cap ≤ maxLen := by
  obtain ⟨a, len, cap, rfl⟩ := okWide_slice Try.underlying88 hv
  obtain ⟨rows, hr, _, h1, h2, hs⟩ := open_rows Try.underlying88 (C := 18) (by kernel_rfl) (by omega) h
  obtain ⟨os, rfl, ho⟩ := rows_rp (W := W) fun r hrm => by
    obtain ⟨hl, n, y, hy⟩ := hs r hrm
    obtain ⟨o, ho, hz⟩ := shape58 hy hl
    exact ⟨o, ho, hz⟩
  exact ⟨a, len, cap, os, rfl, ⟨hr, ho⟩, h1, h2⟩
theorem RepsAt.get {a : Option Addr} {len : Nat} {rs : List Rp} (h : RepsAt w a len rs) (k : Nat) (hk : k < len) (hb : Below w.heap.size w w') :
    ∃ b off r, a = some ⟨b, off, none⟩ ∧ rs[k]? = some r ∧ b < w'.heap.size ∧ w'.rangeAt b (off + k * 18) (rpl r) ∧ w'.cell? ⟨b, off + k * 18, none⟩ = some (.int .i64 r.vol) := by
  have hl : rs.length = len := by have := h.1.1; rwa [List.length_map] at this
  obtain ⟨⟨h1, h2⟩, hx⟩ := h
  obtain ⟨b, off, rfl, hbl, hc⟩ := h2.resolve_left (by omega)
  have hp : rs[k]? = some (rs[k]'(by omega)) := List.getElem?_eq_getElem (by omega)
  have hr : (rs.map rpl)[k]? = some (rpl (rs[k]'(by omega))) := by rw [List.getElem?_map, hp]; rfl
  have hq : w'.rangeAt b (off + k * 18) (rpl (rs[k]'(by omega))) := fun j u hu => (hb.cell (p := ⟨b, off + k * 18 + j, none⟩) hbl).trans (hc k _ hr j u hu)
  exact ⟨b, off, _, rfl, hp, Nat.lt_of_lt_of_le hbl hb.size, hq, hq 0 _ rfl⟩
/-- no more requests than askings. -/
def OutB (s : St) : Prop := (s.out.length : Int) ≤ s.vain + 1
theorem OutB.on (h : OutB s) : OutB (onS s) := by
  unfold onS OutB at *
  split
  · show (s.out.length : Int) ≤ s.vain + 1 + 1; omega
  · show ((s.out ++ [_]).length : Int) ≤ s.vain + 1 + 1; rw [List.length_append]; simp; omega
theorem OutB.tick (h : OutB s) : OutB (tickS s) := by
  unfold tickS
  split
  · split
    · exact OutB.on (s := { s with wait := s.wait + 1 }) h
    · exact h
  · exact h
theorem OutB.take (h : OutB s) (r : Rp) : OutB (takeS s r) := by
  unfold takeS
  split
  · split
    · exact h.on
    · exact h
  · exact h
theorem OutB.le (h : OutB s) (hf : Fit s) : s.out.length ≤ 500 := by
  have := hf.vain1
  unfold OutB at h
  omega
theorem OutB.start (cl : Int) (zs : List Int) (pa v : Int) : OutB (startS (newS cl zs pa) v c9) := by
  unfold startS
  split <;> simp [OutB, newS, askS]
theorem ends_new (W : World) (cl pa vol : Int) (a ar : Option Addr) (len cap lr cr : Nat) (zs : List Int) (h : Ints .i64 W a len zs) (hy : newB cl zs pa = false) :
    Calls Try.prog 5 #[.agg #[.int .i64 cl, .slice a len cap, .int .i64 pa], .int .i64 vol, .slice ar lr cr] W fun e w' => e = .returned (.bool true) ∧ Below W.heap.size W w' := by
  have B0 := Lib.hid ((Below.refl W.heap.size W).alloc (Nat.le_refl _) (.cells #[.int .i64 cl, .slice a len cap, .int .i64 pa] 24))
  have C0 := Lib.hid (new_no _ cl pa a len cap zs (h.below B0.out) hy h.2.2.1)
  clear h hy
  go_enter Try.func5, Try.ntmps5
  go_wp2_with fail
  refine C0.out.mono ?_
  rintro e w1 ⟨rfl, b1⟩
  have B1 := Lib.hid (B0.out.trans (b1.mono B0.out.size))
  clear b1 B0 C0
  go_wp2_with fail
  refine (alive_any _).mono ?_
  rintro e w2 ⟨rfl, b2⟩
  go_wp2
  go_ret
  exact ⟨rfl, B1.out.trans (b2.mono B1.out.size)⟩
theorem ends_early (W : World) (cl : Int) (P : Nat) (vol : Int) (x : Addr) (cap lr cr : Nat) (ar : Option Addr) (zs : List Int) (h : Ints .i64 W (some x) zs.length zs) (hy : newB cl zs (P : Int) = true) (hlr : lr ≤ maxLen) (hbad : 60 < P ∨ 100 < lr ∨ thereB (newS cl zs P) vol = false) :
    Calls Try.prog 5 #[.agg #[.int .i64 cl, .slice (some x) zs.length cap, .int .i64 (P : Nat)], .int .i64 vol, .slice ar lr cr] W fun e w' => e = .returned (.bool true) ∧ Below W.heap.size W w' := by
  have B0 := Lib.hid ((Below.refl W.heap.size W).alloc (Nat.le_refl _) (.cells #[.int .i64 cl, .slice (some x) zs.length cap, .int .i64 (P : Nat)] 24))
  have C0 := new_yes _ cl P x zs.length cap zs (h.below B0.out) hy
  have hok := newS_ok cl zs P hy
  unfold NewPost at C0
  have C0 := Lib.hid C0
  have HX := Lib.hid (Box.new W 24 #[.int .i64 cl, .slice (some x) zs.length cap, .int .i64 (P : Nat)])
  have HOK := Lib.hid hok
  unfold maxLen at hlr
  clear h hy hok
  rcases Nat.lt_or_ge 60 P with h1 | h1
  · clear hbad
    go_enter Try.func5, Try.ntmps5
    go_wp2_with fail
    refine C0.out.mono ?_
    rintro e w1 ⟨n, V, rfl, hP0, b1⟩
    have B1 := Lib.hid (B0.out.trans (b1.mono B0.out.size))
    have HX1 := HX.out.below b1 (by simp)
    have x1 : w1.cell? ⟨W.heap.size, 1, none⟩ = some (.slice (some x) zs.length cap) := HX1.cell 1
    have x2 : w1.cell? ⟨W.heap.size, 2, none⟩ = some (.int .i64 (P : Nat)) := HX1.cell 2
    have hl := HX1.lt
    have hne := ptr_ne n
    have hnn := ptr_nn n
    clear b1 B0 C0 HX1 HX
    go_wp2_with fail
    refine (alive_any _).mono ?_
    rintro e w2 ⟨rfl, b2⟩
    go_wp2
    go_ret
    exact ⟨rfl, B1.out.trans (b2.mono B1.out.size)⟩
  · have h1' : ¬ 60 < P := by omega
    rcases Nat.lt_or_ge 100 lr with h2 | h2
    · clear hbad
      go_enter Try.func5, Try.ntmps5
      go_wp2_with fail
      refine C0.out.mono ?_
      rintro e w1 ⟨n, V, rfl, hP0, b1⟩
      have B1 := Lib.hid (B0.out.trans (b1.mono B0.out.size))
      have HX1 := HX.out.below b1 (by simp)
      have x1 : w1.cell? ⟨W.heap.size, 1, none⟩ = some (.slice (some x) zs.length cap) := HX1.cell 1
      have x2 : w1.cell? ⟨W.heap.size, 2, none⟩ = some (.int .i64 (P : Nat)) := HX1.cell 2
      have hl := HX1.lt
      have hne := ptr_ne n
      have hnn := ptr_nn n
      clear b1 B0 C0 HX1 HX
      go_wp2_with fail
      refine (alive_any _).mono ?_
      rintro e w2 ⟨rfl, b2⟩
      go_wp2
      go_ret
      exact ⟨rfl, B1.out.trans (b2.mono B1.out.size)⟩
    · have h2' : ¬ 100 < lr := by omega
      have ht : thereB (newS cl zs P) vol = false := by
        rcases hbad with h | h | h
        · omega
        · omega
        · exact h
      have hsb : startB (newS cl zs P) vol c9 = false := by rw [new_start_any, ht]
      have hvv : vol < 0 ∨ (zs.length : Int) ≤ vol := by
        have h3 : ¬ (0 ≤ vol ∧ vol < (zs.length : Int)) := fun h => by
          have : thereB (newS cl zs P) vol = true := by rw [thereB]; simp only [Bool.and_eq_true, decide_eq_true_eq]; exact h
          rw [ht] at this; cases this
        omega
      have HSB := Lib.hid hsb
      clear hbad ht hsb
      go_enter Try.func5, Try.ntmps5
      go_wp2_with fail
      refine C0.out.mono ?_
      rintro e w1 ⟨n, V, rfl, hP0, b1⟩
      have B1 := Lib.hid (B0.out.trans (b1.mono B0.out.size))
      have HX1 := HX.out.below b1 (by simp)
      have x1 : w1.cell? ⟨W.heap.size, 1, none⟩ = some (.slice (some x) zs.length cap) := HX1.cell 1
      have x2 : w1.cell? ⟨W.heap.size, 2, none⟩ = some (.int .i64 (P : Nat)) := HX1.cell 2
      have hl := HX1.lt
      have hne := ptr_ne n
      have hnn := ptr_nn n
      have HC := Lib.hid (start_any vol c9 hP0 HOK.out b1.size (by show ([] : List Rq).length ≤ 500; simp) (by show (0 : Int) < 100000; omega))
      rw [HSB.out, show startS (newS cl zs P) vol c9 = newS cl zs P by rw [startS, HSB.out]; rfl] at HC
      have HB1 := Lib.hid b1
      have HPP := Lib.hid hP0
      have HXX := Lib.hid HX1
      clear b1 B0 C0 HX1 HX hP0
      unfold c9 at HC
      go_wp2_with fail
      refine HC.out.mono ?_
      rintro e w2 ⟨rfl, V2, hP2, g2⟩
      have hbx := HXX.out.touch g2.touch (fun ho => by have := HPP.out.of_ge _ ho; rw [World.size_alloc] at this; omega)
      have B2 := Lib.hid (B1.out.trans ((g2.below (B := W.heap.size) (w0 := w1) (Below.refl _ _) (by omega) (fun k hk => by have := HPP.out.of_ge k hk; rw [World.size_alloc] at this; omega))))
      have HB2 := Lib.hid hbx
      clear hP2 g2 hbx HC x1 x2 hl
      go_wp2_with fail
      refine (alive_any _).mono ?_
      rintro e w3 ⟨rfl, b3⟩
      have x1 : w3.cell? ⟨W.heap.size, 1, none⟩ = some (.slice (some x) zs.length cap) := (HB2.out.below b3 HB2.out.lt).cell 1
      have hl := (HB2.out.below b3 HB2.out.lt).lt
      have B3 := Lib.hid (B2.out.trans (b3.mono B2.out.size))
      clear b3
      rcases hvv with h3 | h3
      · go_wp2
        go_ret
        exact ⟨rfl, B3.out⟩
      · have h4 : ¬ vol < 0 := by omega
        go_wp2
        go_ret
        exact ⟨rfl, B3.out⟩
end Go.Proofs.Ytlkilkndjfcejaa
