/- parcels: Len, At, Take, Double, Heal. Conditions: the net lies in the call's own memory. -/
import Derived.Test.YtejoggbebmmlkaaWf
namespace Go.Proofs.Ytejoggbebmmlkaa
open Go.RowKit
set_option linter.unusedVariables false
set_option linter.unusedSimpArgs false
variable {w w' : World} {base n m : Nat} {v : Value} {ps : List Pk} {M : List (Int × Int)}

theorem own_cells {e : TypeId} {vv : Value} {l : List Pk} (h : w.ownsRow base e 3 vv l.length (cellsOf l)) (k : Nat) (p : Pk) (hk : l[k]? = some p) :
    ∃ g cap, vv = .slice (some ⟨g, 0, none⟩) l.length cap ∧ g < w.heap.size ∧ w.cell? ⟨g, k * 3, none⟩ = some (.int .i64 p.1) ∧ w.cell? ⟨g, k * 3 + 1, none⟩ = some (.int .i64 p.2.1) ∧ w.cell? ⟨g, k * 3 + 2, none⟩ = some (.string p.2.2) := by
  obtain ⟨h0, h1, h2⟩ := cells_get l k p hk
  have hlt := (List.getElem?_eq_some_iff.1 hk).1
  rcases h.2 with ⟨_, he⟩ | ⟨g, cap, cur, rfl, hb, hg, _⟩
  · omega
  · have hc := h.cells (g := g) rfl
    have hb : g < w.heap.size := own_lt h g rfl
    refine ⟨g, cap, rfl, hb, ?_, ?_, ?_⟩
    · have := hc _ _ h0; rwa [Addr.add_lit, Nat.zero_add] at this
    · have := hc _ _ h1; rwa [Addr.add_lit, Nat.zero_add] at this
    · have := hc _ _ h2; rwa [Addr.add_lit, Nat.zero_add] at this

theorem set4 (w : World) (p0 p1 p2 p3 : Addr) (u0 u1 u2 u3 : Value) (j : Nat) (h0 : j ≠ p0.block) (h1 : j ≠ p1.block) (h2 : j ≠ p2.block) (h3 : j ≠ p3.block) : ((((w.setCell p0 u0).setCell p1 u1).setCell p2 u2).setCell p3 u3).heap[j]? = w.heap[j]? :=
  (Below.heap_setCell _ _ _ _ h3).trans ((Below.heap_setCell _ _ _ _ h2).trans ((Below.heap_setCell _ _ _ _ h1).trans (Below.heap_setCell _ _ _ _ h0)))
theorem ret_box {fn : Func} {R : Ending → World → Prop} {a : Act} {w : World} {t u : Nat} {b : Nat} {x y z q : Value} (h : fn.results = #[.cell t 27, .tmp u]) (hd : a.defers = []) (ht : a.tmps.getD t undef = .pointer (some ⟨b, 0, none⟩)) (hu : a.tmps.getD u undef = q)
    (hb : Box w b 27 #[x, y, z]) (hR : R (.returned (.tuple #[.agg #[x, y, z], q])) w) : bodyPost Try.prog fn R .ret a w := by
  have c0 : w.cell? ⟨b, 0, none⟩ = some x := hb.cell 0
  have c1 : w.cell? ⟨b, 1, none⟩ = some y := hb.cell 1
  have c2 : w.cell? ⟨b, 2, none⟩ = some z := hb.cell 2
  refine bodyPost_ret (v := .tuple #[.agg #[x, y, z], q]) ?_ hd hR
  rw [Array.getD_eq_getD_getElem?] at ht hu
  simp [results, h, ht, hu, go_sem, c0, c1, c2]

theorem len_any (h : Net w base n m v ps M) : Calls Try.prog 12 #[.pointer (some ⟨n, 0, none⟩)] w fun e w' => e = .returned (.int .i64 (ps.length : Int)) ∧ w = w' := by
  obtain ⟨ad, c, rfl, hcap⟩ := own_shape h.row
  have c0 : w.cell? ⟨n, 0, none⟩ = some (.slice ad ps.length c) := h.box.cell 0
  clear h
  go_enter Try.func12, Try.ntmps12
  go_wp2
  go_ret
  exact ⟨rfl, rfl⟩

theorem at_no (k : Int) (h : Net w base n m v ps M) (hk : k < 0 ∨ (ps.length : Int) ≤ k) (hM : ps.length ≤ 3000) :
    Calls Try.prog 13 #[.pointer (some ⟨n, 0, none⟩), .int .i64 k] w fun e w' => e = .returned (.tuple #[zeroPk, .bool false]) ∧ Below w.heap.size w w' := by
  obtain ⟨ad, c, rfl, hcap⟩ := own_shape h.row
  have c0 : w.cell? ⟨n, 0, none⟩ = some (.slice ad ps.length c) := h.box.cell 0
  have hn := h.box.lt
  clear h
  by_cases hneg : k < 0
  · clear hk
    go_enter Try.func13, Try.ntmps13
    go_wp2
    exact bodyPost_ret (v := .tuple #[zeroPk, .bool false]) (by simp [results, Try.results13, go_sem, zeroPk]) rfl ⟨rfl, (Below.refl _ _).alloc (Nat.le_refl _) _⟩
  · have hge : (ps.length : Int) ≤ k := by omega
    clear hk
    go_enter Try.func13, Try.ntmps13
    go_wp2
    exact bodyPost_ret (v := .tuple #[zeroPk, .bool false]) (by simp [results, Try.results13, go_sem, zeroPk]) rfl ⟨rfl, (Below.refl _ _).alloc (Nat.le_refl _) _⟩

theorem at_yes (k : Nat) (p : Pk) (h : Net w base n m v ps M) (hk : ps[k]? = some p) (hM : ps.length ≤ 3000) :
    Calls Try.prog 13 #[.pointer (some ⟨n, 0, none⟩), .int .i64 (k : Int)] w fun e w' => e = .returned (.tuple #[pv p, .bool true]) ∧ Below w.heap.size w w' := by
  obtain ⟨g, c, rfl, hg, d0, d1, d2⟩ := own_cells h.row k p hk
  have c0 : w.cell? ⟨n, 0, none⟩ = some (.slice (some ⟨g, 0, none⟩) ps.length c) := h.box.cell 0
  have hn := h.box.lt
  have hlt := (List.getElem?_eq_some_iff.1 hk).1
  have h1 : ¬ (k : Int) < 0 := by omega
  have h2 : ¬ (ps.length : Int) ≤ (k : Int) := by omega
  clear h hk
  go_enter Try.func13, Try.ntmps13
  go_wp2
  exact bodyPost_ret (v := .tuple #[pv p, .bool true]) (by simp [results, Try.results13, go_sem, pv]) rfl ⟨rfl, (Below.refl _ _).alloc (Nat.le_refl _) _⟩

theorem take_no (k : Int) (h : Net w base n m v ps M) (hk : k < 0 ∨ (ps.length : Int) ≤ k) (hM : ps.length ≤ 3000) :
    Calls Try.prog 11 #[.pointer (some ⟨n, 0, none⟩), .int .i64 k] w fun e w' => e = .returned (.tuple #[zeroPk, .bool false]) ∧ Below w.heap.size w w' := by
  have CA := Lib.hid (at_no k (h.alloc (.cells #[.int .i64 0, .int .i64 0, .string ⟨#[]⟩] 27)) hk hM)
  unfold zeroPk at CA ⊢
  clear h hk
  go_enter Try.func11, Try.ntmps11
  go_wp2_with fail
  refine CA.out.mono ?_
  rintro e w1 ⟨rfl, bel1⟩
  have hb1 := (Box.new w 27 #[.int .i64 0, .int .i64 0, .string ⟨#[]⟩]).below bel1 (by simp)
  have hsz := hb1.lt
  have e0 : w1.cell? ⟨w.heap.size, 0, none⟩ = some (.int .i64 0) := hb1.cell 0
  have e1 : w1.cell? ⟨w.heap.size, 1, none⟩ = some (.int .i64 0) := hb1.cell 1
  have e2 : w1.cell? ⟨w.heap.size, 2, none⟩ = some (.string ⟨#[]⟩) := hb1.cell 2
  have f0 := hb1.frozen 0
  have f1 := hb1.frozen 1
  have f2 := hb1.frozen 2
  have hb1 := Lib.hid hb1
  have B1 := Lib.hid (((Below.refl w.heap.size w).alloc (Nat.le_refl _) (.cells #[.int .i64 0, .int .i64 0, .string ⟨#[]⟩] 27)).trans (bel1.mono (by simp)))
  clear bel1 CA
  go_wp2
  exact ret_box Try.results11 rfl rfl rfl ((((hb1.out.set 0 _).set 1 _).set 2 _).alloc _) ⟨rfl, (((B1.out.setCell (Nat.le_refl _) _).setCell (Nat.le_refl _) _).setCell (Nat.le_refl _) _).alloc (by simp; omega) _⟩

theorem take_yes (k : Nat) (p : Pk) (h : Net w base n m v ps M) (hb : base ≤ w.heap.size) (hk : ps[k]? = some p) (hM : ps.length ≤ 3000) :
    Calls Try.prog 11 #[.pointer (some ⟨n, 0, none⟩), .int .i64 (k : Int)] w fun e w' => e = .returned (.tuple #[pv p, .bool true]) ∧ ∃ v', Net w' base n m v' (ps.eraseIdx k) M ∧ Goes w w' n m v v' := by
  have hlt := (List.getElem?_eq_some_iff.1 hk).1
  obtain ⟨q, hq⟩ : ∃ q, ps.length = k + 1 + q := ⟨ps.length - (k + 1), by omega⟩
  obtain ⟨g, c, rfl, hg, _⟩ := own_cells h.row k p hk
  have CA := Lib.hid (at_yes k p (h.alloc (.cells #[.int .i64 0, .int .i64 0, .string ⟨#[]⟩] 27)) hk hM)
  have HN0 := Lib.hid h
  have HQ := Lib.hid hq
  rw [hq]
  have hkk : (k : Int) ≤ 3000 := by omega
  unfold pv at CA ⊢
  clear h hk hq hM
  go_enter Try.func11, Try.ntmps11
  go_wp2_with fail
  refine CA.out.mono ?_
  rintro e w1 ⟨rfl, bel1⟩
  have hb1 := Lib.hid ((Box.new w 27 #[.int .i64 0, .int .i64 0, .string ⟨#[]⟩]).below bel1 (by simp))
  have B1 := Lib.hid (((Below.refl w.heap.size w).alloc (Nat.le_refl _) (.cells #[.int .i64 0, .int .i64 0, .string ⟨#[]⟩] 27)).trans (bel1.mono (by simp)))
  have hsz := hb1.out.lt
  have HN1 := Lib.hid (HN0.out.below B1.out (Nat.le_refl _))
  have HN2 := Lib.hid (HN1.out.alloc (.cells #[.int .i64 p.1, .int .i64 p.2.1, .string p.2.2] 27))
  have c0 : w1.cell? ⟨n, 0, none⟩ = some (.slice (some ⟨g, 0, none⟩) (k + 1 + q) c) := by have := HN1.out.box.cell 0; rw [HQ.out] at this; exact this
  have hn1 := HN1.out.box.lt
  have HD := Lib.hid (delete_any g k q c base (cellsOf ps) (w1.alloc (.cells #[.int .i64 p.1, .int .i64 p.2.1, .string p.2.2] 27)) (by have := HN2.out.row; rw [HQ.out] at this; exact this) (cells_one ps))
  clear bel1 CA
  go_wp2_with fail
  refine HD.out.mono ?_
  rintro e w2 ⟨rfl, own2, g2⟩
  have hne : n ≠ g := fun e => HN2.out.vn (by rw [e]; rfl)
  have hnm : n ≠ m := HN2.out.nm
  have hmg : m ≠ g := fun e => HN2.out.vm (by rw [e]; rfl)
  have HB2 := Lib.hid (HN2.out.box.grown g2 (by simpa using hne))
  have hb2 := Lib.hid ((hb1.out.alloc (.cells #[.int .i64 p.1, .int .i64 p.2.1, .string p.2.2] 27)).grown g2 (by simp; omega))
  have hp2 := Lib.hid ((Box.new w1 27 #[.int .i64 p.1, .int .i64 p.2.1, .string p.2.2]).grown g2 (by simp; omega))
  have HM2 := Lib.hid (map_stays HN2.out.map (g2.block m (map_lt HN2.out.map) (by simpa using hmg)))
  have HT2 : Hid (Touch (Of n m (Value.slice (some ⟨g, 0, none⟩) (k + 1 + q) c)) w w2) := (Touch.of_below (B1.out.alloc (by omega) (.cells #[.int .i64 p.1, .int .i64 p.2.1, .string p.2.2] 27))).grown g2 (fun j hj => .inl (.inr (.inr hj)))
  have HO2 := Lib.hid own2
  have hsz2 := g2.size
  simp only [World.size_alloc] at hsz2
  clear own2 g2 HD c0
  have d0 : w2.cell? ⟨n, 0, none⟩ = some (.slice (some ⟨g, 0, none⟩) ps.length c) := HB2.out.cell 0
  have f0 := HB2.out.frozen 0
  have e0 : w2.cell? ⟨w.heap.size, 0, none⟩ = some (.int .i64 0) := hb2.out.cell 0
  have e1 : w2.cell? ⟨w.heap.size, 1, none⟩ = some (.int .i64 0) := hb2.out.cell 1
  have e2 : w2.cell? ⟨w.heap.size, 2, none⟩ = some (.string ⟨#[]⟩) := hb2.out.cell 2
  have k0 := hb2.out.frozen 0
  have k1 := hb2.out.frozen 1
  have k2 := hb2.out.frozen 2
  have l0 : w2.cell? ⟨w1.heap.size, 0, none⟩ = some (.int .i64 p.1) := hp2.out.cell 0
  have l1 : w2.cell? ⟨w1.heap.size, 1, none⟩ = some (.int .i64 p.2.1) := hp2.out.cell 1
  have l2 : w2.cell? ⟨w1.heap.size, 2, none⟩ = some (.string p.2.2) := hp2.out.cell 2
  have hn0 := HN0.out.box.lt
  have ne1 : n ≠ w.heap.size := by omega
  have ne2 : n ≠ w1.heap.size := by omega
  clear hne hmg hnm
  go_wp2
  refine ret_box Try.results11 rfl rfl rfl (((((hb2.out.set_other (p := ⟨n, 0, none⟩) ne1.symm _).set 0 _).set 1 _).set 2 _)) ⟨rfl, .slice (some ⟨g, 0, none⟩) (k + q) c, ?_⟩
  have hgn : g ≠ n := fun e => HN2.out.vn (by rw [← e]; rfl)
  have hmn : m ≠ n := fun e => HN2.out.nm e.symm
  have hmw : m ≠ w.heap.size := by have := map_lt HN0.out.map; omega
  have hgw : g ≠ w.heap.size := by omega
  have hl : (ps.eraseIdx k).length = k + q := by rw [List.length_eraseIdx, if_pos hlt, HQ.out]; omega
  have hc : cellsOf (ps.eraseIdx k) = (cellsOf ps).take (k * 3) ++ (cellsOf ps).drop ((k + 1) * 3) := by rw [List.eraseIdx_eq_take_drop_succ, cells_append, cells_take, cells_drop]
  refine ⟨⟨(((HB2.out.set 0 _).set_other ne1 _).set_other ne1 _).set_other ne1 _, map_stays HM2.out (set4 _ _ _ _ _ _ _ _ _ m hmn hmw hmw hmw), ?_, HN0.out.hn, HN0.out.hm⟩, ?_, fun j hj => .inl hj⟩
  · rw [hl, hc]
    exact own_stays HO2.out (fun j hj => by
      obtain rfl : g = j := by simpa [Value.ownBlock] using hj
      exact set4 _ _ _ _ _ _ _ _ _ g hgn hgw hgw hgw)
  · exact (((HT2.out.setCell (.inl rfl) _).setCell_new (Nat.le_refl _) _).setCell_new (Nat.le_refl _) _).setCell_new (Nat.le_refl _) _
end Go.Proofs.Ytejoggbebmmlkaa
