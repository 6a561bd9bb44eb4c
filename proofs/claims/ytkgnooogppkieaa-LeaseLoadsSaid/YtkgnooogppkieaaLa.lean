/- lease: rows of leases; a table. Conditions: the table lies in the call's own memory. -/
import Derived.Test.YtkgnooogppkieaaRow
import Derived.Test.YtkgnooogppkieaaOpen
import Derived.Test.YtkgnooogppkieaaOwn
import Derived.Test.YtkgnooogppkieaaTouch
import Derived.Test.YtkgnooogppkieaaQB
import Derived.Test.YtkgnooogppkieaaPhase
import Derived.Test.YtkgnooogppkieaaScope
namespace Go.Proofs.Ytkgnooogppkieaa
open Go.RowKit
set_option linter.unusedVariables false
set_option linter.unusedSimpArgs false

abbrev Lz := Int × Int × Int
def tc (p : Lz) : List Value := [.int .i64 p.1, .int .i64 p.2.1, .int .i64 p.2.2]
def tv (p : Lz) : Value := .agg #[.int .i64 p.1, .int .i64 p.2.1, .int .i64 p.2.2]
def cellsOf (l : List Lz) : List Value := l.flatMap tc
theorem cells_len (l : List Lz) : (cellsOf l).length = l.length * 3 := by
  induction l with
  | nil => rfl
  | cons p l ih => simp only [cellsOf, List.flatMap_cons, List.length_append, List.length_cons] at ih ⊢; rw [ih]; simp [tc]; omega
theorem cells_one (l : List Lz) : ∀ u ∈ cellsOf l, u.oneCell' = true := by
  intro u hu
  obtain ⟨p, _, hp⟩ := List.mem_flatMap.1 hu
  simp only [tc, List.mem_cons, List.not_mem_nil, or_false] at hp
  rcases hp with rfl | rfl | rfl <;> rfl
theorem cells_snoc (l : List Lz) (p : Lz) : cellsOf (l ++ [p]) = cellsOf l ++ tc p := by simp [cellsOf]
theorem cells_take (l : List Lz) (k : Nat) : (cellsOf l).take (k * 3) = cellsOf (l.take k) := by
  induction k generalizing l with
  | zero => simp [cellsOf]
  | succ k ih =>
    cases l with
    | nil => simp [cellsOf]
    | cons p l =>
      have : (k + 1) * 3 = k * 3 + 1 + 1 + 1 := by omega
      rw [this]
      have h2 : cellsOf (p :: l) = .int .i64 p.1 :: .int .i64 p.2.1 :: .int .i64 p.2.2 :: cellsOf l := rfl
      rw [h2, List.take_succ_cons, List.take_succ_cons, List.take_succ_cons, ih]
      rfl
theorem cells_drop (l : List Lz) (k : Nat) : (cellsOf l).drop (k * 3) = cellsOf (l.drop k) := by
  induction k generalizing l with
  | zero => simp
  | succ k ih =>
    cases l with
    | nil => simp [cellsOf]
    | cons p l =>
      have : (k + 1) * 3 = k * 3 + 1 + 1 + 1 := by omega
      rw [this]
      have h2 : cellsOf (p :: l) = .int .i64 p.1 :: .int .i64 p.2.1 :: .int .i64 p.2.2 :: cellsOf l := rfl
      rw [h2, List.drop_succ_cons, List.drop_succ_cons, List.drop_succ_cons, ih]
      rfl
theorem cells_append (l m : List Lz) : cellsOf (l ++ m) = cellsOf l ++ cellsOf m := by simp [cellsOf]
theorem cells_get (l : List Lz) (k : Nat) (p : Lz) (h : l[k]? = some p) : (cellsOf l)[k * 3]? = some (.int .i64 p.1) ∧ (cellsOf l)[k * 3 + 1]? = some (.int .i64 p.2.1) ∧ (cellsOf l)[k * 3 + 2]? = some (.int .i64 p.2.2) := by
  have hd : l.drop k = p :: l.drop (k + 1) := by
    have hlt := (List.getElem?_eq_some_iff.1 h).1
    rw [List.drop_eq_getElem_cons hlt]
    congr 1
    rw [List.getElem?_eq_getElem hlt] at h
    exact Option.some.inj h
  have hc : (cellsOf l).drop (k * 3) = tc p ++ cellsOf (l.drop (k + 1)) := by rw [cells_drop, hd]; rfl
  have h0 : ∀ j, (cellsOf l)[k * 3 + j]? = (tc p ++ cellsOf (l.drop (k + 1)))[j]? := fun j => by rw [← List.getElem?_drop, hc]
  exact ⟨h0 0, h0 1, h0 2⟩

variable {w w' : World} {base n : Nat} {v : Value} {L : List Lz}
theorem own_cells {e : TypeId} {vv : Value} {l : List Lz} (h : w.ownsRow base e 3 vv l.length (cellsOf l)) (k : Nat) (p : Lz) (hk : l[k]? = some p) :
    ∃ g cap, vv = .slice (some ⟨g, 0, none⟩) l.length cap ∧ g < w.heap.size ∧ w.cell? ⟨g, k * 3, none⟩ = some (.int .i64 p.1) ∧ w.cell? ⟨g, k * 3 + 1, none⟩ = some (.int .i64 p.2.1) ∧ w.cell? ⟨g, k * 3 + 2, none⟩ = some (.int .i64 p.2.2) := by
  obtain ⟨h0, h1, h2⟩ := cells_get l k p hk
  have hlt := (List.getElem?_eq_some_iff.1 hk).1
  rcases h.2 with ⟨_, he⟩ | ⟨g, cap, cur, rfl, hb, hg, _⟩
  · omega
  · have hc := h.cells (g := g) rfl
    have hb : g < w.heap.size := own_lt h g rfl
    refine ⟨g, cap, rfl, hb, ?_, ?_, ?_⟩
    · have := hc _ _ h0; rwa [Addr.add_lit, Nat.zero_add] at this
    · have := hc _ _ h1; rwa [Addr.add_lit, Nat.zero_add] at this
    · have := hc _ _ h2; rwa [Addr.add_lit, Nat.zero_add] at this

/-- a table. -/
structure Tab (w : World) (base n : Nat) (v : Value) (L : List Lz) : Prop where
  box : Box w n 56 #[v]
  row : w.ownsRow base 37 3 v L.length (cellsOf L)
  hn : base ≤ n
/-- its blocks. -/
def Of (n : Nat) (v : Value) (k : Nat) : Prop := k = n ∨ v.ownBlock = some k
theorem Tab.vn (h : Tab w base n v L) : v.ownBlock ≠ some n := own_box_ne h.row h.box (by decide)
theorem Tab.stays (h : Tab w base n v L) (hk : ∀ k, k < w.heap.size → Of n v k → w'.heap[k]? = w.heap[k]?) : Tab w' base n v L :=
  ⟨(hk n h.box.lt (.inl rfl)).trans h.box, own_stays h.row (fun k hv => hk k (own_lt h.row k hv) (.inr hv)), h.hn⟩
theorem Tab.below {B : Nat} (h : Tab w base n v L) (hb : Below B w w') (hB : w.heap.size ≤ B) : Tab w' base n v L := h.stays fun k hk _ => hb.block k (by omega)
theorem Tab.alloc (h : Tab w base n v L) (o : Obj) : Tab (w.alloc o) base n v L := h.stays fun k hk _ => Below.heap_alloc w o k hk
theorem Tab.drew (h : Tab w base n v L) : Tab w.drew base n v L := h.stays fun _ _ _ => rfl
theorem Tab.drewN (h : Tab w base n v L) (j : Nat) : Tab (w.drewN j) base n v L := h.stays fun _ _ _ => rfl
theorem Tab.touch {S : Nat → Prop} (h : Tab w base n v L) (ht : Touch S w w') (hd : ∀ k, S k → ¬ Of n v k) : Tab w' base n v L := h.stays fun k hk ho => ht.block k hk (fun hs => hd k hs ho)
theorem Tab.setCell (h : Tab w base n v L) {p : Addr} (hp : ¬ Of n v p.block) (u : Value) : Tab (w.setCell p u) base n v L :=
  h.stays fun k _ ho => Below.heap_setCell _ _ _ _ (by rintro rfl; exact hp ho)
theorem Tab.of_ge (h : Tab w base n v L) : ∀ k, Of n v k → base ≤ k := by
  rintro k (rfl | hv)
  · exact h.hn
  · exact own_ge h.row k hv
theorem Tab.of_lt (h : Tab w base n v L) : ∀ k, Of n v k → k < w.heap.size := by
  rintro k (rfl | hv)
  · exact h.box.lt
  · exact own_lt h.row k hv
/-- what a call on a table leaves: a table, of the old blocks or of new ones; nothing else is touched. -/
structure Goes (w w' : World) (n : Nat) (v v' : Value) : Prop where
  touch : Touch (Of n v) w w'
  lies : ∀ k, v'.ownBlock = some k → v.ownBlock = some k ∨ w.heap.size ≤ k
theorem Goes.of_below {v : Value} (h : Below w.heap.size w w') : Goes w w' n v v := ⟨Touch.of_below h, fun _ hk => .inl hk⟩
theorem Goes.ofs {v v' : Value} (h : Goes w w' n v v') : ∀ k, Of n v' k → Of n v k ∨ w.heap.size ≤ k := by
  rintro k (rfl | hv)
  · exact .inl (.inl rfl)
  · rcases h.lies k hv with h | h
    · exact .inl (.inr h)
    · exact .inr h
theorem Goes.trans {w'' : World} {v v' v'' : Value} (h : Goes w w' n v v') (k : Goes w' w'' n v' v'') : Goes w w'' n v v'' := by
  refine ⟨⟨k.touch.os.trans h.touch.os, k.touch.tape.trans h.touch.tape, k.touch.output.trans h.touch.output, Nat.le_trans h.touch.size k.touch.size, fun i hi hn => ?_⟩, fun i hv => ?_⟩
  · refine (k.touch.block i (Nat.lt_of_lt_of_le hi h.touch.size) (fun ho => ?_)).trans (h.touch.block i hi hn)
    rcases h.ofs i ho with h1 | h1
    · exact hn h1
    · omega
  · rcases k.lies i hv with h1 | h1
    · exact h.lies i h1
    · exact .inr (Nat.le_trans h.touch.size h1)
theorem Goes.below {v v' : Value} {B : Nat} {w0 : World} (h : Goes w w' n v v') (hb : Below B w0 w) (hB : B ≤ w0.heap.size) (hg : ∀ k, Of n v k → B ≤ k) : Below B w0 w' := by
  refine hb.trans ⟨h.touch.os, h.touch.tape, h.touch.output, h.touch.size, fun i hi => ?_⟩
  have hs := hb.size
  exact h.touch.block i (by omega) (fun ho => by have := hg i ho; omega)

/-- the rising order of the ids. -/
abbrev Rises (L : List Lz) : Prop := L.Pairwise (fun a b => a.1 < b.1)
theorem clock_any (t : Int) (w : World) : Calls Try.prog 32 #[.int .i64 t] w fun e w' => e = .returned (.bool (decide (0 ≤ t) && decide (t ≤ 1099511627776))) ∧ w = w' := by
  by_cases h : 0 ≤ t
  · have h1 : decide (0 ≤ t) = true := by simpa using h
    rw [h1]
    go_enter Try.func32, Try.ntmps32
    go_wp2
    go_ret
    exact ⟨by simp, rfl⟩
  · have h1 : decide (0 ≤ t) = false := by simpa using h
    rw [h1]
    go_enter Try.func32, Try.ntmps32
    go_wp2
    go_ret
    exact ⟨by simp, rfl⟩
def cmpI (a b : Int) : Int := if a < b then -1 else if b < a then 1 else 0
theorem isNaN_any (a : Int) (w : World) : Calls Try.prog 46 #[.int .i64 a] w fun e w' => e = .returned (.bool false) ∧ w = w' := by
  go_enter Try.func46, Try.ntmps46
  go_wp2
  go_ret
  exact ⟨by simp, rfl⟩
theorem compare_any (a b : Int) (w : World) : Calls Try.prog 39 #[.int .i64 a, .int .i64 b] w fun e w' => e = .returned (.int .i64 (cmpI a b)) ∧ w = w' := by
  unfold cmpI
  by_cases h1 : a < b
  · go_enter Try.func39, Try.ntmps39
    go_wp2_with fail
    refine (isNaN_any a _).mono ?_
    rintro e w1 ⟨rfl, rfl⟩
    go_wp2_with fail
    refine (isNaN_any b _).mono ?_
    rintro e w1 ⟨rfl, rfl⟩
    go_wp2
    go_ret
    exact ⟨by simp [h1], rfl⟩
  · by_cases h2 : b < a
    · go_enter Try.func39, Try.ntmps39
      go_wp2_with fail
      refine (isNaN_any a _).mono ?_
      rintro e w1 ⟨rfl, rfl⟩
      go_wp2_with fail
      refine (isNaN_any b _).mono ?_
      rintro e w1 ⟨rfl, rfl⟩
      go_wp2
      go_ret
      exact ⟨by simp [h1, h2], rfl⟩
    · go_enter Try.func39, Try.ntmps39
      go_wp2_with fail
      refine (isNaN_any a _).mono ?_
      rintro e w1 ⟨rfl, rfl⟩
      go_wp2_with fail
      refine (isNaN_any b _).mono ?_
      rintro e w1 ⟨rfl, rfl⟩
      go_wp2
      go_ret
      exact ⟨by simp [h1, h2], rfl⟩
/-- the comparison that find hands over. -/
theorem find1_any (p : Lz) (id : Int) (w : World) : Calls Try.prog 38 #[tv p, .int .i64 id] w fun e w' => e = .returned (.int .i64 (cmpI p.1 id)) ∧ Below w.heap.size w w' := by
  unfold tv
  go_enter Try.func38, Try.ntmps38
  go_wp2_with fail
  refine (compare_any p.1 id _).mono ?_
  rintro e w1 ⟨rfl, rfl⟩
  go_wp2
  go_ret
  exact ⟨rfl, (Below.refl _ _).alloc (Nat.le_refl _) _⟩
end Go.Proofs.Ytkgnooogppkieaa
