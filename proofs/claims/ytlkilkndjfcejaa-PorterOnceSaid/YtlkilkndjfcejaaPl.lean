/- porter: PorterTurns, the walk. Conditions: none. -/
import Derived.Test.YtlkilkndjfcejaaPk
import Derived.Lib.SmallJoins
namespace Go.Proofs.Ytlkilkndjfcejaa
open Go Go.RowKit Go.ChangeShapes Go.WideShapes Go.ChangeAt
set_option linter.unusedVariables false
set_option linter.unusedSimpArgs false
variable {w w' : World} {base n : Nat} {V V' : Vs} {s s' : St}

set_option maxRecDepth 100000 in
theorem who_open {H : Type} {enc : TypeId × Value → H} {W : World} {base : Nat} {v : Value} {d : DataW H} {p : List MemPlace} (hv : Value.okWide Try.prog W .any base 24 v) (h : DataW.Trod enc Try.prog W 0 (fun _ => true) true 24 v d p) :
    ∃ (cl pa : Int) (a : Option Addr) (len cap : Nat) (zs : List Int), v = .agg #[.int .i64 cl, .slice a len cap, .int .i64 pa] ∧ Ints .i64 W a len zs := by
  obtain ⟨v0, v1, v2, y0, y1, y2, n, rfl, _, _, h0, h1, h2⟩ := Joins.open_agg3 Try.underlying24 (by kernel_rfl) (by kernel_rfl) hv h
  obtain ⟨a, e0, _, _⟩ := DataW.trod_int Try.underlying3 h0
  obtain ⟨b, e2, _, _⟩ := DataW.trod_int Try.underlying3 h2
  simp at e0 e2
  subst e0 e2
  have key : ∃ ad len cap, v1 = .slice ad len cap := by
    rcases open_ints Try.underlying22 Try.underlying3 (by kernel_rfl) h1 with ⟨hcs, _⟩ | ⟨x, l, c, zs, hcs, _⟩
    · simp at hcs; exact ⟨_, _, _, hcs⟩
    · simp at hcs; exact ⟨_, _, _, hcs⟩
  obtain ⟨ad, len, cap, rfl⟩ := key
  obtain ⟨zs, hz, _, _⟩ := open_Ints (a := ad) (len := len) (cap := cap) (d := y1.1) (p := y1.2) Try.underlying22 Try.underlying3 (by kernel_rfl) ⟨n, by simpa [Value.cells] using h1⟩
  exact ⟨a, b, ad, len, cap, zs, rfl, hz⟩
theorem own_src {e size n c : Nat} {ad : Option Addr} {xs : List Value} (h : w.ownsRow base e size (.slice ad n c) n xs) (h1 : ∀ u ∈ xs, u.oneCell' = true) : Src w ad n size xs := by
  refine ⟨h.1, h1, ?_⟩
  have hC := fun (g : Nat) (hg : (Value.slice ad n c).ownBlock = some g) => h.cells hg
  rcases h.2 with ⟨_, h0⟩ | ⟨g, cap, cur, he, _⟩
  · exact .inl h0
  · obtain ⟨rfl, rfl⟩ : ad = some ⟨g, 0, none⟩ ∧ c = cap := by simpa using he
    exact .inr ⟨_, rfl, hC g rfl⟩
theorem ql_one (L : List Rq) : ∀ u ∈ L.flatMap ql, u.oneCell' = true := by
  intro u hu
  obtain ⟨p, _, hp⟩ := List.mem_flatMap.1 hu
  simp only [ql, List.mem_cons, List.not_mem_nil, or_false] at hp
  rcases hp with rfl | rfl | rfl | rfl | rfl | rfl | rfl | rfl | rfl | rfl | rfl | rfl | rfl | rfl | rfl | rfl | rfl | rfl | rfl | rfl <;> rfl
/-- a law's early end. -/
theorem turns_new (W : World) (cl pa vol : Int) (a : Option Addr) (len cap : Nat) (zs : List Int) (h : Ints .i64 W a len zs) (hy : newB cl zs pa = false) :
    Calls Try.prog 4 #[.agg #[.int .i64 cl, .slice a len cap, .int .i64 pa], .int .i64 vol] W fun e w' => e = .returned (.bool true) ∧ Below W.heap.size W w' := by
  have B0 := Lib.hid ((Below.refl W.heap.size W).alloc (Nat.le_refl _) (.cells #[.int .i64 cl, .slice a len cap, .int .i64 pa] 24))
  have C0 := Lib.hid (new_no _ cl pa a len cap zs (h.below B0.out) hy h.2.2.1)
  clear h hy
  go_enter Try.func4, Try.ntmps4
  go_wp2_with fail
  refine C0.out.mono ?_
  rintro e w1 ⟨rfl, b1⟩
  have B1 := Lib.hid (B0.out.trans (b1.mono B0.out.size))
  clear b1 B0 C0
  go_wp2_with fail
  refine (alive_any _).mono ?_
  rintro e w2 ⟨rfl, b2⟩
  go_wp2
  go_ret
  exact ⟨rfl, B1.out.trans (b2.mono B1.out.size)⟩
theorem turns_early (W : World) (cl : Int) (P : Nat) (vol : Int) (x : Addr) (cap : Nat) (zs : List Int) (h : Ints .i64 W (some x) zs.length zs) (hy : newB cl zs (P : Int) = true) (hbad : 60 < P ∨ vol < 0 ∨ (zs.length : Int) ≤ vol) :
    Calls Try.prog 4 #[.agg #[.int .i64 cl, .slice (some x) zs.length cap, .int .i64 (P : Nat)], .int .i64 vol] W fun e w' => e = .returned (.bool true) ∧ Below W.heap.size W w' := by
  have B0 := Lib.hid ((Below.refl W.heap.size W).alloc (Nat.le_refl _) (.cells #[.int .i64 cl, .slice (some x) zs.length cap, .int .i64 (P : Nat)] 24))
  have C0 := new_yes _ cl P x zs.length cap zs (h.below B0.out) hy
  unfold NewPost at C0
  have C0 := Lib.hid C0
  have HX := Lib.hid (Box.new W 24 #[.int .i64 cl, .slice (some x) zs.length cap, .int .i64 (P : Nat)])
  clear h hy
  rcases Nat.lt_or_ge 60 P with h1 | h1
  · clear hbad
    go_enter Try.func4, Try.ntmps4
    go_wp2_with fail
    refine C0.out.mono ?_
    rintro e w1 ⟨n, V, rfl, _, b1⟩
    have B1 := Lib.hid (B0.out.trans (b1.mono B0.out.size))
    have HX1 := HX.out.below b1 (by simp)
    have x2 : w1.cell? ⟨W.heap.size, 2, none⟩ = some (.int .i64 (P : Nat)) := HX1.cell 2
    have hl := HX1.lt
    have hne := ptr_ne n
    clear b1 B0 C0 HX1 HX
    go_wp2_with fail
    refine (alive_any _).mono ?_
    rintro e w2 ⟨rfl, b2⟩
    go_wp2
    go_ret
    exact ⟨rfl, B1.out.trans (b2.mono B1.out.size)⟩
  · have h1' : ¬ 60 < P := by omega
    by_cases h2 : vol < 0
    · clear hbad
      go_enter Try.func4, Try.ntmps4
      go_wp2_with fail
      refine C0.out.mono ?_
      rintro e w1 ⟨n, V, rfl, _, b1⟩
      have B1 := Lib.hid (B0.out.trans (b1.mono B0.out.size))
      have HX1 := HX.out.below b1 (by simp)
      have x2 : w1.cell? ⟨W.heap.size, 2, none⟩ = some (.int .i64 (P : Nat)) := HX1.cell 2
      have hl := HX1.lt
      have hne := ptr_ne n
      clear b1 B0 C0 HX1 HX
      go_wp2_with fail
      refine (alive_any _).mono ?_
      rintro e w2 ⟨rfl, b2⟩
      go_wp2
      go_ret
      exact ⟨rfl, B1.out.trans (b2.mono B1.out.size)⟩
    · have h3 : (zs.length : Int) ≤ vol := by omega
      clear hbad
      go_enter Try.func4, Try.ntmps4
      go_wp2_with fail
      refine C0.out.mono ?_
      rintro e w1 ⟨n, V, rfl, _, b1⟩
      have B1 := Lib.hid (B0.out.trans (b1.mono B0.out.size))
      have HX1 := HX.out.below b1 (by simp)
      have x1 : w1.cell? ⟨W.heap.size, 1, none⟩ = some (.slice (some x) zs.length cap) := HX1.cell 1
      have x2 : w1.cell? ⟨W.heap.size, 2, none⟩ = some (.int .i64 (P : Nat)) := HX1.cell 2
      have hl := HX1.lt
      have hne := ptr_ne n
      clear b1 B0 C0 HX1 HX
      go_wp2_with fail
      refine (alive_any _).mono ?_
      rintro e w2 ⟨rfl, b2⟩
      go_wp2
      go_ret
      exact ⟨rfl, B1.out.trans (b2.mono B1.out.size)⟩
end Go.Proofs.Ytlkilkndjfcejaa
