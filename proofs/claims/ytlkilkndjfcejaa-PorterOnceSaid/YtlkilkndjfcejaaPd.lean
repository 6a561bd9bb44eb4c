/- porter: end, Done. Conditions: the client is in its bounds. -/
import Derived.Test.YtlkilkndjfcejaaPc
namespace Go.Proofs.Ytlkilkndjfcejaa
open Go Go.RowKit
set_option linter.unusedVariables false
set_option linter.unusedSimpArgs false
variable {w w' : World} {base n : Nat} {V V' : Vs} {s s' : St}

theorem lv81 {w : World} {b : Nat} {cs : Array Value} (h : Box w b 81 cs) (hs : cs.size = 15) : (loadVar 81 ⟨b, 0, none⟩).run Try.prog w = .ok (.agg cs) w :=
  run_loadVar_row w b 81 81 cs (0, 0) _ h Try.underlying81 rfl (by rw [hs]; kernel_rfl)
theorem own_set {e size m c g : Nat} {xs : List Value} (h : w.ownsRow base e size (.slice (some ⟨g, 0, none⟩) m c) m xs) (j : Nat) (hj : j < m * size) (u : Value) : (w.setCell ⟨g, j, none⟩ u).ownsRow base e size (.slice (some ⟨g, 0, none⟩) m c) m (xs.set j u) := by
  obtain ⟨hl, h2⟩ := h
  refine ⟨by rw [List.length_set]; exact hl, ?_⟩
  rcases h2 with ⟨h0, _⟩ | ⟨g', cap, cur, he, hb, hg, hc, hm, hcs, ht⟩
  · cases h0
  · obtain ⟨rfl, rfl⟩ : g = g' ∧ c = cap := by simpa using he
    refine .inr ⟨g, c, cur.setIfInBounds j u, rfl, hb, heap_setCell_same w g j cur e u hg, hc, hm, by simpa using hcs, ?_⟩
    rw [Array.toList_setIfInBounds, List.take_set, ht]
/-- another row of results. -/
theorem Pt.newD (h : Pt w base n V s) (u : Value) (s' : St) (hbox : Box w' n 98 (pcs s' { V with d := u })) (hk : ∀ k, k < w.heap.size → k ≠ n → w'.heap[k]? = w.heap[k]?)
    (hd : w'.ownsRow base 81 15 u s'.done.length (s'.done.flatMap sl)) (h1 : s'.many = s.many) (h2 : s'.guess = s.guess) (h3 : s'.out = s.out) : Pt w' base n { V with d := u } s' := by
  have hs : ∀ (T : TypeId) (N : Nat) (v : Value) (k : Nat) (xs : List Value), T ≠ 98 → w.ownsRow base T N v k xs → w'.ownsRow base T N v k xs := fun T N v k xs hT ho => own_stays ho fun i hi => hk i (own_lt ho i hi) (fun e => own_box_ne ho h.box hT (hi.trans (congrArg some e)))
  refine ⟨hbox, ?_, ?_, ?_, hd, h.dis, h.hn⟩
  · rw [h1]; exact hs _ _ _ _ _ (by decide) h.rm
  · rw [h2]; exact hs _ _ _ _ _ (by decide) h.rg
  · rw [h3]; exact hs _ _ _ _ _ (by decide) h.ro

set_option maxHeartbeats 4000000 in
theorem end_any (r : Rs) (h : Pt w base n V s) (hb : base ≤ w.heap.size) : Calls Try.prog 34 #[.pointer (some ⟨n, 0, none⟩), .agg (sc r)] w fun e w' => e = .returned (.tuple #[]) ∧ Does w base n V (endS s r) w' := by
  have hn := h.box.lt
  have H := Lib.hid h
  have p4 : w.cell? ⟨n, 4, none⟩ = some (.int .i64 s.nu) := (h.box).cell 4
  have p5 : w.cell? ⟨n, 5, none⟩ = some (.bool s.busy) := (h.box).cell 5
  have p28 : w.cell? ⟨n, 28, none⟩ = some (V.d) := (h.box).cell 28
  have f5 := h.box.frozen 5
  have f28 := h.box.frozen 28
  clear h
  go_enter Try.func34, Try.ntmps34
  go_wp2
  go_end0
  have hsz : ((w.setCell ⟨n, 5, none⟩ (.bool false)).setCell ⟨n, 28, none⟩ (.slice (some ⟨w.heap.size + 1, 0, none⟩) 1 1)).heap.size = w.heap.size := by simp
  have hrow := World.ownsRow_lit (base := base) (e := 81) (size := 15) (((w.setCell ⟨n, 5, none⟩ (.bool false)).setCell ⟨n, 28, none⟩ (.slice (some ⟨w.heap.size + 1, 0, none⟩) 1 1)).alloc (.cells #[.int .i64 s.nu, .int .i64 r.co, .int .i64 r.a.co, .int .i64 r.a.h1, .int .i64 r.a.h2, .string r.a.b, .int .i64 r.a.i1, .int .i64 r.a.i2, .int .i64 r.a.i3, .int .i64 r.a.i4, .int .i64 r.a.i5, .int .i64 r.a.i6, .int .i64 r.a.i7, .int .i64 r.a.i8, .slice r.a.na r.a.nl r.a.nc] 81)) #[.int .i64 s.nu, .int .i64 r.co, .int .i64 r.a.co, .int .i64 r.a.h1, .int .i64 r.a.h2, .string r.a.b, .int .i64 r.a.i1, .int .i64 r.a.i2, .int .i64 r.a.i3, .int .i64 r.a.i4, .int .i64 r.a.i5, .int .i64 r.a.i6, .int .i64 r.a.i7, .int .i64 r.a.i8, .slice r.a.na r.a.nl r.a.nc] 1 (by rw [World.size_alloc, hsz]; omega) (by decide) rfl
  rw [World.size_alloc, hsz] at hrow
  have hT : Touch (Of n V) w ((((w.setCell ⟨n, 5, none⟩ (.bool false)).setCell ⟨n, 28, none⟩ (.slice (some ⟨w.heap.size + 1, 0, none⟩) 1 1)).alloc (.cells #[.int .i64 s.nu, .int .i64 r.co, .int .i64 r.a.co, .int .i64 r.a.h1, .int .i64 r.a.h2, .string r.a.b, .int .i64 r.a.i1, .int .i64 r.a.i2, .int .i64 r.a.i3, .int .i64 r.a.i4, .int .i64 r.a.i5, .int .i64 r.a.i6, .int .i64 r.a.i7, .int .i64 r.a.i8, .slice r.a.na r.a.nl r.a.nc] 81)).alloc (.cells #[.int .i64 s.nu, .int .i64 r.co, .int .i64 r.a.co, .int .i64 r.a.h1, .int .i64 r.a.h2, .string r.a.b, .int .i64 r.a.i1, .int .i64 r.a.i2, .int .i64 r.a.i3, .int .i64 r.a.i4, .int .i64 r.a.i5, .int .i64 r.a.i6, .int .i64 r.a.i7, .int .i64 r.a.i8, .slice r.a.na r.a.nl r.a.nc] 81)) := ((((Touch.refl (Of n V) w).setCell (p := ⟨n, 5, none⟩) (.inl rfl) _).setCell (p := ⟨n, 28, none⟩) (.inl rfl) _).alloc _).alloc _
  refine ⟨rfl, { V with d := .slice (some ⟨w.heap.size + 1, 0, none⟩) 1 1 }, H.out.newD _ (endS s r) ((((H.out.box.set 5 _).set 28 _).alloc _).alloc _) (fun k hk hne => ?_) hrow rfl rfl rfl, hT, fun k hk => ?_⟩
  · exact (Below.heap_alloc _ _ _ (by rw [World.size_alloc, hsz]; omega)).trans ((Below.heap_alloc _ _ _ (by rw [hsz]; exact hk)).trans ((Below.heap_setCell _ _ _ _ hne).trans (Below.heap_setCell _ _ _ _ hne)))
  · rcases hk with h1 | h1 | h1 | h1 | h1
    · exact .inl (.inl h1)
    · exact .inl (.inr (.inl h1))
    · exact .inl (.inr (.inr (.inl h1)))
    · exact .inl (.inr (.inr (.inr (.inl h1))))
    · right
      have h3 : w.heap.size + 1 = k := Option.some.inj h1
      show w.heap.size ≤ k
      omega
def zeroRs : Rs := ⟨0, 0, zeroAn⟩
theorem done_no (h : Pt w base n V s) (hd : s.done = []) : Calls Try.prog 20 #[.pointer (some ⟨n, 0, none⟩)] w fun e w' => e = .returned (.tuple #[.agg (sc zeroRs), .bool false]) ∧ Below w.heap.size w w' := by
  have hn := h.box.lt
  obtain ⟨ad, cd, hvd, _⟩ := own_shape h.rd
  have p28 : w.cell? ⟨n, 28, none⟩ = some (V.d) := (h.box).cell 28
  rw [hvd, hd] at p28
  clear h hvd hd
  go_enter Try.func20, Try.ntmps20
  go_wp2
  refine ret_ct Try.results20 rfl rfl rfl (lv81 (Box.new w 81 _) rfl) ⟨rfl, (Below.refl _ _).alloc (Nat.le_refl _) _⟩
set_option maxHeartbeats 4000000 in
theorem done_yes (r : Rs) (h : Pt w base n V s) (hd : s.done = [r]) : Calls Try.prog 20 #[.pointer (some ⟨n, 0, none⟩)] w fun e w' => e = .returned (.tuple #[.agg (sc r), .bool true]) ∧ Pt w' base n { V with d := .slice none 0 0 } (doneS s) ∧ Goes w w' n V { V with d := .slice none 0 0 } := by
  have hn := h.box.lt
  obtain ⟨g, cd, hvd, hgb, hgl, hgk, hgc, hc⟩ := own_atN sl_len h.rd rfl 0 r (by rw [hd]; rfl)
  have hdl : s.done.length = 1 := by rw [hd]; rfl
  have p28 : w.cell? ⟨n, 28, none⟩ = some (V.d) := (h.box).cell 28
  have c0 := hc 0 _ rfl
  have c1 := hc 1 _ rfl
  have c2 := hc 2 _ rfl
  have c3 := hc 3 _ rfl
  have c4 := hc 4 _ rfl
  have c5 := hc 5 _ rfl
  have c6 := hc 6 _ rfl
  have c7 := hc 7 _ rfl
  have c8 := hc 8 _ rfl
  have c9 := hc 9 _ rfl
  have c10 := hc 10 _ rfl
  have c11 := hc 11 _ rfl
  have c12 := hc 12 _ rfl
  have c13 := hc 13 _ rfl
  have c14 := hc 14 _ rfl
  simp only [Nat.zero_mul, Nat.zero_add] at c0 c1 c2 c3 c4 c5 c6 c7 c8 c9 c10 c11 c12 c13 c14
  rw [hvd, hdl] at p28
  have f28 := h.box.frozen 28
  have H := Lib.hid h
  clear h hvd hd hc hdl hgk hgc
  go_enter Try.func20, Try.ntmps20
  go_wp2
  have hsz : (w.setCell ⟨n, 28, none⟩ (.slice none 0 0)).heap.size = w.heap.size := by simp
  have hX := Box.new (w.setCell ⟨n, 28, none⟩ (.slice none 0 0)) 81 (sc r)
  rw [hsz] at hX
  have hT : Touch (Of n V) w (((w.setCell ⟨n, 28, none⟩ (.slice none 0 0)).alloc (.cells (sc r) 81)).alloc (.cells (sc r) 81)) := (((Touch.refl (Of n V) w).setCell (p := ⟨n, 28, none⟩) (.inl rfl) _).alloc _).alloc _
  refine ret_ct Try.results20 rfl rfl rfl (lv81 (hX.alloc _) rfl) ⟨rfl, H.out.newD _ (doneS s) (((H.out.box.set 28 _).alloc _).alloc _) (fun k hk hne => ?_) (World.ownsRow_nil _ _ _ _) rfl rfl rfl, hT, fun k hk => ?_⟩
  · exact (Below.heap_alloc _ _ _ (by rw [World.size_alloc, hsz]; omega)).trans ((Below.heap_alloc _ _ _ (by rw [hsz]; exact hk)).trans (Below.heap_setCell _ _ _ _ hne))
  · rcases hk with h1 | h1 | h1 | h1 | h1
    · exact .inl (.inl h1)
    · exact .inl (.inr (.inl h1))
    · exact .inl (.inr (.inr (.inl h1)))
    · exact .inl (.inr (.inr (.inr (.inl h1))))
    · cases h1
end Go.Proofs.Ytlkilkndjfcejaa
