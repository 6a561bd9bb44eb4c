/- platter: Read. Conditions: the disk lies in the call's own memory. -/
import Derived.Test.YtdiboicllolcnaaPb
namespace Go.Proofs.Ytdiboicllolcnaa
open Go Go.RowKit
set_option linter.unusedVariables false
set_option linter.unusedSimpArgs false
variable {w w' : World} {base n : Nat} {V V' V'' : Vs} {D : Dk}

theorem setCells_new (C : Array Value) (T : TypeId) : ∀ (vs : List Value) (o : Nat) (C : Array Value) (w : World) (n : Nat), n = w.heap.size → (w.alloc (.cells C T)).setCells n o vs = w.alloc (.cells ((List.zipIdx vs o).foldl (fun C x => C.setIfInBounds x.2 x.1) C) T) := by
  intro vs
  induction vs with
  | nil => intro o C w n _; rfl
  | cons v vs ih => intro o C w n hn; rw [World.setCells, World.setCell_alloc_at _ _ _ _ _ hn, ih _ _ _ _ hn, List.zipIdx_cons, List.foldl_cons]
theorem fold_set : ∀ (vs : List Value) (o : Nat) (C : Array Value), o + vs.length = C.size → (List.zipIdx vs o).foldl (fun C x => C.setIfInBounds x.2 x.1) C = (C.toList.take o ++ vs).toArray := by
  intro vs
  induction vs with
  | nil => intro o C h; simp at h; subst h; simp [List.take_of_length_le]
  | cons v vs ih =>
    intro o C h
    rw [List.zipIdx_cons, List.foldl_cons, ih _ _ (by simp at h ⊢; omega)]
    congr 1
    simp only [Array.toList_setIfInBounds]
    rw [List.take_add_one, List.take_set_of_le (Nat.le_refl _), List.getElem?_set_self (by simp at h ⊢; omega)]
    simp
/-- a new block, stored whole. -/
theorem new_whole (w : World) (C : Array Value) (T : TypeId) (vs : List Value) (h : vs.length = C.size) (n : Nat) (hn : n = w.heap.size) : (w.alloc (.cells C T)).setCells n 0 vs = w.alloc (.cells vs.toArray T) := by
  rw [setCells_new C T vs 0 C w n hn, fold_set vs 0 C (by omega)]; simp
theorem isz63 : (Try.prog.info? 81).map (·.size) = some 64 := by kernel_rfl
theorem isz68 : (Try.prog.info? 83).map (·.size) = some 65 := by kernel_rfl
def zeros : Array Value := #[.int .u8 0, .int .u8 0, .int .u8 0, .int .u8 0, .int .u8 0, .int .u8 0, .int .u8 0, .int .u8 0, .int .u8 0, .int .u8 0, .int .u8 0, .int .u8 0, .int .u8 0, .int .u8 0, .int .u8 0, .int .u8 0, .int .u8 0, .int .u8 0, .int .u8 0, .int .u8 0, .int .u8 0, .int .u8 0, .int .u8 0, .int .u8 0, .int .u8 0, .int .u8 0, .int .u8 0, .int .u8 0, .int .u8 0, .int .u8 0, .int .u8 0, .int .u8 0, .int .u8 0, .int .u8 0, .int .u8 0, .int .u8 0, .int .u8 0, .int .u8 0, .int .u8 0, .int .u8 0, .int .u8 0, .int .u8 0, .int .u8 0, .int .u8 0, .int .u8 0, .int .u8 0, .int .u8 0, .int .u8 0, .int .u8 0, .int .u8 0, .int .u8 0, .int .u8 0, .int .u8 0, .int .u8 0, .int .u8 0, .int .u8 0, .int .u8 0, .int .u8 0, .int .u8 0, .int .u8 0, .int .u8 0, .int .u8 0, .int .u8 0, .int .u8 0]
theorem zeros_size : zeros.size = 64 := rfl
theorem there_new (w : World) (C : Array Value) (T : TypeId) (m : Nat) (h : m ≤ C.size) : (w.alloc (.cells C T)).there w.heap.size 0 m := fun j hj => by
  have hb := Box.new w T C
  rw [Nat.zero_add]
  exact ⟨by rw [hb.cell j]; simp; omega, hb.frozen j⟩
theorem store_new (w : World) (vs : List Value) (h : vs.length = 64) (h1 : ∀ u ∈ vs, u.oneCell' = true) :
    (Instr.storeAt 81 (.pointer (some ⟨w.heap.size, 0, none⟩)) (.agg vs.toArray)).run Try.prog (w.alloc (.cells zeros 81)) = .ok () (w.alloc (.cells vs.toArray 81)) := by
  rw [run_storeAt_mid (P := Try.prog) (w.alloc (.cells zeros 81)) w.heap.size 0 81 vs.toArray (there_new _ _ _ _ (by rw [List.size_toArray, h, zeros_size]; omega)) (by rw [List.size_toArray, h]; exact isz63) (all_oneCell_toArray h1)]
  rw [List.toList_toArray, new_whole _ _ _ _ (by rw [h, zeros_size]) _ rfl]
theorem now_range {m c k : Nat} {ad : Option Addr} {l : List Sec} {e : TypeId} {s : Sec} (h : w.ownsRow base e 64 (.slice ad m c) m (secCells l)) (hf : Full l) (hk : l[k]? = some s) (hm : l.length = m) : ∃ g, ad = some ⟨g, 0, none⟩ ∧ base ≤ g ∧ g < w.heap.size ∧ w.rangeAt g (k * 64) (bc s) := by
  have hlt := (List.getElem?_eq_some_iff.1 hk).1
  obtain ⟨g, rfl, hb, hg, hc⟩ := own_at h 0 (by omega)
  refine ⟨g, rfl, hb, hg, fun j v hj => hc _ v ?_⟩
  have hj64 : j < 64 := by
    have := (List.getElem?_eq_some_iff.1 hj).1
    rw [bc_len, hf s (List.mem_of_getElem? hk)] at this; exact this
  have := fm_get bc 64 l hf.bc k s hk j hj64
  unfold secCells; rw [this]; exact hj
def ReadTo (D : Dk) (k : Int) (w : World) (e : Ending) (w' : World) : Prop :=
  (mayE D k ≠ 0 ∧ e = .returned (.tuple #[.slice none 0 0, .int .i64 (mayE D k)]) ∧ w = w') ∨
  (mayE D k = 0 ∧ ∃ s, D.now[k.toNat]? = some s ∧ e = .returned (.tuple #[.slice (some ⟨w.heap.size, 0, none⟩) 64 64, .int .i64 0]) ∧ w' = w.alloc (.cells (bc s).toArray 81))
theorem ret_two {fn : Func} {R : Ending → World → Prop} {act : Act} {w : World} {x y : Value} {t u : Nat} (h : fn.results = #[.tmp t, .tmp u]) (hd : act.defers = []) (ht : act.tmps.getD t undef = x) (hu : act.tmps.getD u undef = y)
    (hR : R (.returned (.tuple #[x, y])) w) : bodyPost Try.prog fn R .ret act w := by
  refine bodyPost_ret (v := .tuple #[x, y]) ?_ hd hR
  rw [Array.getD_eq_getD_getElem?] at ht hu
  simp [results, h, ht, hu, go_sem]
theorem may_zero {k : Int} (h : mayE D k = 0) : D.dead = false ∧ 0 ≤ k ∧ k < D.now.length := by
  unfold mayE at h
  cases hd : D.dead <;> rw [hd] at h
  · simp only [Bool.false_eq_true, if_false] at h
    split at h
    · cases h
    · exact ⟨rfl, by omega, by omega⟩
  · simp at h
theorem may_val (D : Dk) (k : Int) : mayE D k = 0 ∨ mayE D k = 40 ∨ mayE D k = 41 := by
  unfold mayE; split
  · exact .inr (.inl rfl)
  · split
    · exact .inr (.inr rfl)
    · exact .inl rfl
set_option maxHeartbeats 1000000 in
set_option maxRecDepth 100000 in
theorem read_any (k : Int) (h : Dsk w base n V D) (hg : Good D) : Calls Try.prog 23 #[.pointer (some ⟨n, 0, none⟩), .int .i64 k] w (ReadTo D k w) := by
  have C1 := may_any k h hg.many
  by_cases hm : mayE D k = 0
  rotate_left
  · have HM := Lib.hid hm
    have hv := may_val D k
    obtain ⟨e0, he⟩ : ∃ e0, e0 = mayE D k := ⟨_, rfl⟩
    have HE := Lib.hid he
    rw [← he] at C1 hm
    have hne : (e0 != 0) = true := by simpa using hm
    have C1 := Lib.hid C1
    clear h hg hv he hm
    go_enter Try.func23, Try.ntmps23
    go_wp2_with fail
    refine C1.out.mono ?_
    rintro e w1 ⟨rfl, rfl⟩
    go_wp2_with fail
    exact ret_two rfl rfl (x := .slice none 0 0) (y := .int .i64 e0) rfl rfl (.inl ⟨HM.out, by rw [HE.out], rfl⟩)
  · have HM := Lib.hid hm
    obtain ⟨hd, h0, h1⟩ := may_zero hm
    rw [hm] at C1
    have C1 := Lib.hid C1
    obtain ⟨k, rfl⟩ := Int.eq_ofNat_of_zero_le h0
    obtain ⟨s, hs⟩ : ∃ s, D.now[k]? = some s := ⟨_, List.getElem?_eq_getElem (by omega)⟩
    obtain ⟨ad, c, he, hc⟩ := own_shape h.rn
    have hrn := h.rn
    obtain ⟨c0, _⟩ := h.cells
    rw [he] at hrn c0
    obtain ⟨g, rfl, hgb, hgl, hr⟩ := now_range hrn hg.fulln hs rfl
    have hsl : s.length = 64 := hg.fulln s (List.mem_of_getElem? hs)
    have HR := Lib.hid hr
    have HSZ := Lib.hid (show (Try.prog.info? 81).map (·.size) = some (bc s).length by rw [bc_len, hsl]; exact isz63)
    have HTH : Hid ((w.alloc (.cells #[.int .u8 0, .int .u8 0, .int .u8 0, .int .u8 0, .int .u8 0, .int .u8 0, .int .u8 0, .int .u8 0, .int .u8 0, .int .u8 0, .int .u8 0, .int .u8 0, .int .u8 0, .int .u8 0, .int .u8 0, .int .u8 0, .int .u8 0, .int .u8 0, .int .u8 0, .int .u8 0, .int .u8 0, .int .u8 0, .int .u8 0, .int .u8 0, .int .u8 0, .int .u8 0, .int .u8 0, .int .u8 0, .int .u8 0, .int .u8 0, .int .u8 0, .int .u8 0, .int .u8 0, .int .u8 0, .int .u8 0, .int .u8 0, .int .u8 0, .int .u8 0, .int .u8 0, .int .u8 0, .int .u8 0, .int .u8 0, .int .u8 0, .int .u8 0, .int .u8 0, .int .u8 0, .int .u8 0, .int .u8 0, .int .u8 0, .int .u8 0, .int .u8 0, .int .u8 0, .int .u8 0, .int .u8 0, .int .u8 0, .int .u8 0, .int .u8 0, .int .u8 0, .int .u8 0, .int .u8 0, .int .u8 0, .int .u8 0, .int .u8 0, .int .u8 0] 81)).there w.heap.size 0 (bc s).toArray.size) := there_new w zeros 81 _ (by rw [List.size_toArray, bc_len, hsl, zeros_size]; omega)
    have HNW : Hid ((w.alloc (.cells #[.int .u8 0, .int .u8 0, .int .u8 0, .int .u8 0, .int .u8 0, .int .u8 0, .int .u8 0, .int .u8 0, .int .u8 0, .int .u8 0, .int .u8 0, .int .u8 0, .int .u8 0, .int .u8 0, .int .u8 0, .int .u8 0, .int .u8 0, .int .u8 0, .int .u8 0, .int .u8 0, .int .u8 0, .int .u8 0, .int .u8 0, .int .u8 0, .int .u8 0, .int .u8 0, .int .u8 0, .int .u8 0, .int .u8 0, .int .u8 0, .int .u8 0, .int .u8 0, .int .u8 0, .int .u8 0, .int .u8 0, .int .u8 0, .int .u8 0, .int .u8 0, .int .u8 0, .int .u8 0, .int .u8 0, .int .u8 0, .int .u8 0, .int .u8 0, .int .u8 0, .int .u8 0, .int .u8 0, .int .u8 0, .int .u8 0, .int .u8 0, .int .u8 0, .int .u8 0, .int .u8 0, .int .u8 0, .int .u8 0, .int .u8 0, .int .u8 0, .int .u8 0, .int .u8 0, .int .u8 0, .int .u8 0, .int .u8 0, .int .u8 0, .int .u8 0] 81)).setCells w.heap.size 0 (bc s).toArray.toList = w.alloc (.cells (bc s).toArray 81)) := new_whole w zeros 81 _ (by simp [bc_len, hsl, zeros_size]) _ rfl
    have HSA := Lib.hid (show (Try.prog.info? 81).map (·.size) = some (bc s).toArray.size by rw [List.size_toArray]; exact HSZ.out)
    have HONE := Lib.hid (all_oneCell_toArray (bc_one s))
    have hn := h.box.lt
    have hki : (k : Int) < (D.now.length : Int) := h1
    have HS := Lib.hid hs
    clear h hg hd h0 h1 hm hs he hrn hr hsl hgb
    go_enter Try.func23, Try.ntmps23
    go_wp2_with fail
    refine C1.out.mono ?_
    rintro e w1 ⟨rfl, rfl⟩
    go_wp2_with (first | (with_reducible refine wpList_load_mid rfl 81 (.tmp 19) rfl g (k * 64) rfl (bc s) _ HR.out Try.underlying81 rfl HSZ.out ?_) | (with_reducible refine wpList_store_mid rfl 81 (.tmp 7) (.tmp 20) rfl w.heap.size 0 (bc s).toArray rfl rfl HTH.out HSA.out HONE.out ?_; rw [HNW.out]))
    exact ret_two rfl rfl rfl rfl (.inr ⟨HM.out, s, HS.out, rfl, rfl⟩)
end Go.Proofs.Ytdiboicllolcnaa
