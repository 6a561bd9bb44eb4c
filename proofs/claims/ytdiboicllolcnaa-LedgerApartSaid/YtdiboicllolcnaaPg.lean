/- platter: Sync. Conditions: the disk lies in the call's own memory. -/
import Derived.Test.YtdiboicllolcnaaPf
namespace Go.Proofs.Ytdiboicllolcnaa
open Go Go.RowKit
set_option linter.unusedVariables false
set_option linter.unusedSimpArgs false
variable {w w' : World} {base n : Nat} {V V' V'' : Vs} {D : Dk}

theorem own_src {e size n c : Nat} {ad : Option Addr} {xs : List Value} (h : w.ownsRow base e size (.slice ad n c) n xs) (h1 : ∀ u ∈ xs, u.oneCell' = true) : Src w ad n size xs := by
  refine ⟨h.1, h1, ?_⟩
  have hC := fun (g : Nat) (hg : (Value.slice ad n c).ownBlock = some g) => h.cells hg
  rcases h.2 with ⟨_, h0⟩ | ⟨g, cap, cur, he, _⟩
  · exact .inl h0
  · obtain ⟨rfl, rfl⟩ : ad = some ⟨g, 0, none⟩ ∧ c = cap := by simpa using he
    exact .inr ⟨_, rfl, hC g rfl⟩
theorem nil_eq (w : World) : (binOp .eql 75 (.slice none 0 0) (.slice none 0 0)).run Try.prog w = .ok (.bool true) w := by kernel_rfl
theorem some_ne (a : Addr) (n c : Nat) (w : World) : (binOp .eql 75 (.slice (some a) n c) (.slice none 0 0)).run Try.prog w = .ok (.bool false) w := by kernel_rfl
theorem isz63' : (Try.prog.info? 81).map (fun i => (i.zero, i.size, i.bytes)) = some (some (.agg zeros), 64, 64) := by kernel_rfl
set_option maxHeartbeats 1000000 in
theorem clone_row {l : List Sec} (ad : Option Addr) (c : Nat) (h : w.ownsRow base 81 64 (.slice ad l.length c) l.length (secCells l)) (hl : l.length ≤ 65536) :
    Calls Try.prog 45 #[.slice ad l.length c] w fun e w' => ∃ v', e = .returned v' ∧ w'.ownsRow w.heap.size 81 64 v' l.length (secCells l) ∧ Below w.heap.size w w' := by
  cases ad with
  | none =>
    have h0 : l.length = 0 ∧ c = 0 := by
      rcases h.2 with ⟨h0, h1⟩ | ⟨g, cap, cur, h0, _⟩
      · exact ⟨h1, by injection h0⟩
      · cases h0
    obtain rfl : l = [] := List.length_eq_zero_iff.1 h0.1
    rw [h0.2]
    have s1 := nil_eq
    clear h h0
    go_enter Try.func45, Try.ntmps45
    go_wp2
    go_ret
    exact ⟨_, rfl, World.ownsRow_nil _ _ _ _, Below.refl _ _⟩
  | some ad =>
    have HO1 := Lib.hid (World.ownsRow_lit (base := w.heap.size) (e := 81) (size := 64) w #[] 0 (Nat.le_refl _) (by decide) rfl)
    have HS1 := Lib.hid (own_src (own_stays h (w' := w.alloc (.cells #[] 81)) (fun k hk => Below.heap_alloc w _ k (own_lt h k hk))) (sec_one l))
    obtain ⟨i0, hi, hz0, hz1, hz2⟩ := info_parts isz63'
    have HI := Lib.hid hi
    have HZZ := Lib.hid hz0
    have HSZ := Lib.hid (show w.heap.size ≤ (w.alloc (.cells #[] 81)).heap.size by simp)
    have BB := Lib.hid ((Below.refl w.heap.size w).alloc (Nat.le_refl _) (.cells #[] 81))
    have s1 := some_ne
    clear h hi hz0
    go_enter Try.func45, Try.ntmps45
    go_wp2_with (at_builtin; refine wpList_append_at rfl (.tmp 5) (.tmp 6) 75 rfl w.heap.size 81 i0 _ 64 64 Try.underlying75 HI.out HZZ.out hz1 hz2 rfl (by decide) _ _ _ rfl HO1.out _ _ _ _ rfl HS1.out (by unfold maxLen; omega) (by omega) HSZ.out ?_; intro v2 w2 own2 g2 at2)
    go_ret
    exact ⟨_, rfl, by simpa using own2, BB.out.grown g2 HSZ.out (own_ge HO1.out)⟩

/-! one write more on the sectors -/
theorem laid_snoc (l : List Sec) (ws : List Wr) (x : Wr) : laid l (ws ++ [x]) = (laid l ws).set x.1 x.2 := by simp [laid]
theorem laid_take (l : List Sec) (ws : List Wr) (k : Nat) (x : Wr) (hk : ws[k]? = some x) : laid l (ws.take (k + 1)) = (laid l (ws.take k)).set x.1 x.2 := by
  rw [List.take_add_one, hk]; exact laid_snoc l _ x
theorem laid_len (l : List Sec) (ws : List Wr) : (laid l ws).length = l.length := by
  unfold laid
  induction ws generalizing l with
  | nil => rfl
  | cons x ws ih => rw [List.foldl_cons, ih, List.length_set]
theorem laid_full {l : List Sec} {ws : List Wr} (h : Full l) (hw : FullW ws) : Full (laid l ws) := by
  unfold laid
  induction ws generalizing l with
  | nil => exact h
  | cons x ws ih => exact ih (h.set _ _ (hw x (by simp))) (fun y hy => hw y (by simp [hy]))
theorem FullW.take {ws : List Wr} (h : FullW ws) (k : Nat) : FullW (ws.take k) := fun x hx => h x (List.mem_of_mem_take hx)
theorem wait_range {m c k : Nat} {ad : Option Addr} {ws : List Wr} {x : Wr} (h : w.ownsRow base 83 65 (.slice ad m c) m (wCells ws)) (hf : FullW ws) (hk : ws[k]? = some x) (hm : ws.length = m) : ∃ g, ad = some ⟨g, 0, none⟩ ∧ base ≤ g ∧ g < w.heap.size ∧ w.rangeAt g (k * 65) (wc x) := by
  have hlt := (List.getElem?_eq_some_iff.1 hk).1
  obtain ⟨g, rfl, hb, hg, hc⟩ := own_at h 0 (by omega)
  refine ⟨g, rfl, hb, hg, fun j v hj => hc _ v ?_⟩
  have hj64 : j < 65 := by
    have := (List.getElem?_eq_some_iff.1 hj).1
    rw [wc_len, hf x (List.mem_of_getElem? hk)] at this; exact this
  have := fm_get wc 65 ws hf.wc k x hk j hj64
  unfold wCells; rw [this]; exact hj
/-- a sector of a row is set. -/
theorem own_setSec {l : List Sec} {c g m : Nat} (h : w.ownsRow base 81 64 (.slice (some ⟨g, 0, none⟩) m c) m (secCells l)) (hf : Full l) (hm : l.length = m) (k : Nat) (s : Sec) (hk : k < l.length) (hs : s.length = 64) :
    (w.setCells g (k * 64) (bc s)).ownsRow base 81 64 (.slice (some ⟨g, 0, none⟩) m c) m (secCells (l.set k s)) := by
  have := own_sets (bc s) (k * 64) w (secCells l) h (by rw [bc_len, hs]; omega)
  rwa [sets_secs hf k s hk hs] at this
theorem Dsk.setFirm {g c : Nat} {l : List Sec} (h : Dsk w base n V { D with firm := l }) (hf : Full l) (hV : V.f = .slice (some ⟨g, 0, none⟩) l.length c) (k : Nat) (s : Sec) (hk : k < l.length) (hs : s.length = 64) : Dsk (w.setCells g (k * 64) (bc s)) base n V { D with firm := l.set k s } := by
  have hne : g ≠ n := fun e => h.nf (by rw [hV, e]; rfl)
  refine ⟨(setCells_other g _ _ w n (Ne.symm hne)).trans h.box, ?_, ?_, ?_, h.hn, h.ne⟩
  · exact own_stays h.rn fun b hb => setCells_other g _ _ w b (fun e => h.ne b hb (by rw [hV, e]; rfl))
  · have h1 := h.rf
    simp only [hV] at h1 ⊢
    simp only [List.length_set]
    exact own_setSec h1 hf rfl k s hk hs
  · exact own_stays h.rw fun b hb => setCells_other g _ _ w b (fun e => own_own_ne h.rf h.rw (by decide) g (by rw [hV]; rfl) (e ▸ hb))
theorem zero68 : ∃ zs : Array Value, (∀ w, (zeroValue 83).run Try.prog w = .ok (.agg zs) w) ∧ zs.size = 65 ∧ ¬ zs = #[] ∧ zs = ztail.toArray := by
  refine ⟨ztail.toArray, fun w => ?_, by kernel_rfl, by intro h; exact absurd (congrArg Array.size h) (by decide), rfl⟩
  obtain ⟨i, hi, hz, hs⟩ := info68
  simp [zeroValue, typeInfo, hi, hz]
theorem there_newW (w : World) (x : Wr) (h : x.2.length = 64) : (w.alloc (.cells ztail.toArray 83)).there w.heap.size 0 (wc x).toArray.size := there_new _ _ _ _ (by rw [List.size_toArray, wc_len, h]; exact Nat.le_refl 65)
theorem new_wholeW (w : World) (x : Wr) (h : x.2.length = 64) : (w.alloc (.cells ztail.toArray 83)).setCells w.heap.size 0 (wc x).toArray.toList = w.alloc (.cells (wc x).toArray 83) := new_whole w _ 83 _ (by simp [wc_len, h, ztail, zeros_size]) _ rfl
theorem box_rangeW {m : Nat} {x : Wr} (h : Box w m 83 (wc x).toArray) : w.rangeAt m 1 (bc x.2) := fun j v hj => by rw [h.cell (1 + j), Nat.add_comm]; simpa [wc] using hj
theorem box_fst {m : Nat} {x : Wr} (h : Box w m 83 (wc x).toArray) : w.cell? ⟨m, 0, none⟩ = some (.int .i64 x.1) := by rw [h.cell 0]; simp [wc]
end Go.Proofs.Ytdiboicllolcnaa
