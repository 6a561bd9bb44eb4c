/- watcher: rows of watches; a table; how two watches are compared. Conditions: the table lies in the call's own memory. -/
import Derived.Test.YtmcjpochpmiipaaDoorRow
import Derived.Test.YtmcjpochpmiipaaDoorOpen
import Derived.Test.YtmcjpochpmiipaaDoorOwn
import Derived.Test.YtmcjpochpmiipaaDoorTouch
import Derived.Test.YtmcjpochpmiipaaDoorQB
import Derived.Test.YtmcjpochpmiipaaDoorPhase
import Derived.Test.YtmcjpochpmiipaaDoorScope
import Derived.Test.YtmcjpochpmiipaaDoorMixed
import Derived.Test.YtmcjpochpmiipaaDoorZnTen
import Derived.Laws.Cover1
namespace Go.Proofs.YtmcjpochpmiipaaDoor
open Go.RowKit
set_option linter.unusedVariables false
set_option linter.unusedSimpArgs false

abbrev Wt := Int × ByteArray × Bool
def tc (p : Wt) : List Value := [.int .i64 p.1, .string p.2.1, .bool p.2.2]
def tv (p : Wt) : Value := .agg #[.int .i64 p.1, .string p.2.1, .bool p.2.2]
def cellsOf (l : List Wt) : List Value := l.flatMap tc
theorem cells_len (l : List Wt) : (cellsOf l).length = l.length * 3 := by
  induction l with
  | nil => rfl
  | cons p l ih => simp only [cellsOf, List.flatMap_cons, List.length_append, List.length_cons] at ih ⊢; rw [ih]; simp [tc]; omega
theorem cells_one (l : List Wt) : ∀ u ∈ cellsOf l, u.oneCell' = true := by
  intro u hu
  obtain ⟨p, _, hp⟩ := List.mem_flatMap.1 hu
  simp only [tc, List.mem_cons, List.not_mem_nil, or_false] at hp
  rcases hp with rfl | rfl | rfl <;> rfl
theorem cells_snoc (l : List Wt) (p : Wt) : cellsOf (l ++ [p]) = cellsOf l ++ tc p := by simp [cellsOf]
theorem cells_take (l : List Wt) (k : Nat) : (cellsOf l).take (k * 3) = cellsOf (l.take k) := by
  induction k generalizing l with
  | zero => simp [cellsOf]
  | succ k ih =>
    cases l with
    | nil => simp [cellsOf]
    | cons p l =>
      have : (k + 1) * 3 = k * 3 + 1 + 1 + 1 := by omega
      rw [this]
      have h2 : cellsOf (p :: l) = .int .i64 p.1 :: .string p.2.1 :: .bool p.2.2 :: cellsOf l := rfl
      rw [h2, List.take_succ_cons, List.take_succ_cons, List.take_succ_cons, ih]
      rfl
theorem cells_drop (l : List Wt) (k : Nat) : (cellsOf l).drop (k * 3) = cellsOf (l.drop k) := by
  induction k generalizing l with
  | zero => simp
  | succ k ih =>
    cases l with
    | nil => simp [cellsOf]
    | cons p l =>
      have : (k + 1) * 3 = k * 3 + 1 + 1 + 1 := by omega
      rw [this]
      have h2 : cellsOf (p :: l) = .int .i64 p.1 :: .string p.2.1 :: .bool p.2.2 :: cellsOf l := rfl
      rw [h2, List.drop_succ_cons, List.drop_succ_cons, List.drop_succ_cons, ih]
      rfl
theorem cells_append (l m : List Wt) : cellsOf (l ++ m) = cellsOf l ++ cellsOf m := by simp [cellsOf]
theorem cells_get (l : List Wt) (k : Nat) (p : Wt) (h : l[k]? = some p) : (cellsOf l)[k * 3]? = some (.int .i64 p.1) ∧ (cellsOf l)[k * 3 + 1]? = some (.string p.2.1) ∧ (cellsOf l)[k * 3 + 2]? = some (.bool p.2.2) := by
  have hd : l.drop k = p :: l.drop (k + 1) := by
    have hlt := (List.getElem?_eq_some_iff.1 h).1
    rw [List.drop_eq_getElem_cons hlt]
    congr 1
    rw [List.getElem?_eq_getElem hlt] at h
    exact Option.some.inj h
  have hc : (cellsOf l).drop (k * 3) = tc p ++ cellsOf (l.drop (k + 1)) := by rw [cells_drop, hd]; rfl
  have h0 : ∀ j, (cellsOf l)[k * 3 + j]? = (tc p ++ cellsOf (l.drop (k + 1)))[j]? := fun j => by rw [← List.getElem?_drop, hc]
  exact ⟨h0 0, h0 1, h0 2⟩

variable {w w' : World} {base n : Nat} {v : Value} {L : List Wt}
theorem own_cells {e : TypeId} {vv : Value} {l : List Wt} (h : w.ownsRow base e 3 vv l.length (cellsOf l)) (k : Nat) (p : Wt) (hk : l[k]? = some p) :
    ∃ g cap, vv = .slice (some ⟨g, 0, none⟩) l.length cap ∧ g < w.heap.size ∧ w.cell? ⟨g, k * 3, none⟩ = some (.int .i64 p.1) ∧ w.cell? ⟨g, k * 3 + 1, none⟩ = some (.string p.2.1) ∧ w.cell? ⟨g, k * 3 + 2, none⟩ = some (.bool p.2.2) := by
  obtain ⟨h0, h1, h2⟩ := cells_get l k p hk
  have hlt := (List.getElem?_eq_some_iff.1 hk).1
  rcases h.2 with ⟨_, he⟩ | ⟨g, cap, cur, rfl, hb, hg, _⟩
  · omega
  · have hc := h.cells (g := g) rfl
    have hb : g < w.heap.size := own_lt h g rfl
    refine ⟨g, cap, rfl, hb, ?_, ?_, ?_⟩
    · have := hc _ _ h0; rwa [Addr.add_lit, Nat.zero_add] at this
    · have := hc _ _ h1; rwa [Addr.add_lit, Nat.zero_add] at this
    · have := hc _ _ h2; rwa [Addr.add_lit, Nat.zero_add] at this

/-- a table. -/
structure Tab (w : World) (base n : Nat) (v : Value) (L : List Wt) : Prop where
  box : Box w n 53 #[v]
  row : w.ownsRow base 31 3 v L.length (cellsOf L)
  hn : base ≤ n
/-- its blocks. -/
def Of (n : Nat) (v : Value) (k : Nat) : Prop := k = n ∨ v.ownBlock = some k
theorem Tab.vn (h : Tab w base n v L) : v.ownBlock ≠ some n := own_box_ne h.row h.box (by decide)
theorem Tab.stays (h : Tab w base n v L) (hk : ∀ k, k < w.heap.size → Of n v k → w'.heap[k]? = w.heap[k]?) : Tab w' base n v L :=
  ⟨(hk n h.box.lt (.inl rfl)).trans h.box, own_stays h.row (fun k hv => hk k (own_lt h.row k hv) (.inr hv)), h.hn⟩
theorem Tab.below {B : Nat} (h : Tab w base n v L) (hb : Below B w w') (hB : w.heap.size ≤ B) : Tab w' base n v L := h.stays fun k hk _ => hb.block k (by omega)
theorem Tab.alloc (h : Tab w base n v L) (o : Obj) : Tab (w.alloc o) base n v L := h.stays fun k hk _ => Below.heap_alloc w o k hk
theorem Tab.drew (h : Tab w base n v L) : Tab w.drew base n v L := h.stays fun _ _ _ => rfl
theorem Tab.drewN (h : Tab w base n v L) (j : Nat) : Tab (w.drewN j) base n v L := h.stays fun _ _ _ => rfl
theorem Tab.touch {S : Nat → Prop} (h : Tab w base n v L) (ht : Touch S w w') (hd : ∀ k, S k → ¬ Of n v k) : Tab w' base n v L := h.stays fun k hk ho => ht.block k hk (fun hs => hd k hs ho)
theorem Tab.setCell (h : Tab w base n v L) {p : Addr} (hp : ¬ Of n v p.block) (u : Value) : Tab (w.setCell p u) base n v L :=
  h.stays fun k _ ho => Below.heap_setCell _ _ _ _ (by rintro rfl; exact hp ho)
theorem Tab.of_ge (h : Tab w base n v L) : ∀ k, Of n v k → base ≤ k := by
  rintro k (rfl | hv)
  · exact h.hn
  · exact own_ge h.row k hv
theorem Tab.of_lt (h : Tab w base n v L) : ∀ k, Of n v k → k < w.heap.size := by
  rintro k (rfl | hv)
  · exact h.box.lt
  · exact own_lt h.row k hv
/-- what a call on a table leaves: a table, of the old blocks or of new ones; nothing else is touched. -/
structure Goes (w w' : World) (n : Nat) (v v' : Value) : Prop where
  touch : Touch (Of n v) w w'
  lies : ∀ k, v'.ownBlock = some k → v.ownBlock = some k ∨ w.heap.size ≤ k
theorem Goes.of_below {v : Value} (h : Below w.heap.size w w') : Goes w w' n v v := ⟨Touch.of_below h, fun _ hk => .inl hk⟩
theorem Goes.ofs {v v' : Value} (h : Goes w w' n v v') : ∀ k, Of n v' k → Of n v k ∨ w.heap.size ≤ k := by
  rintro k (rfl | hv)
  · exact .inl (.inl rfl)
  · rcases h.lies k hv with h | h
    · exact .inl (.inr h)
    · exact .inr h
theorem Goes.trans {w'' : World} {v v' v'' : Value} (h : Goes w w' n v v') (k : Goes w' w'' n v' v'') : Goes w w'' n v v'' := by
  refine ⟨⟨k.touch.os.trans h.touch.os, k.touch.tape.trans h.touch.tape, k.touch.output.trans h.touch.output, Nat.le_trans h.touch.size k.touch.size, fun i hi hn => ?_⟩, fun i hv => ?_⟩
  · refine (k.touch.block i (Nat.lt_of_lt_of_le hi h.touch.size) (fun ho => ?_)).trans (h.touch.block i hi hn)
    rcases h.ofs i ho with h1 | h1
    · exact hn h1
    · omega
  · rcases k.lies i hv with h1 | h1
    · exact h.lies i h1
    · exact .inr (Nat.le_trans h.touch.size h1)
theorem Goes.below {v v' : Value} {B : Nat} {w0 : World} (h : Goes w w' n v v') (hb : Below B w0 w) (hB : B ≤ w0.heap.size) (hg : ∀ k, Of n v k → B ≤ k) : Below B w0 w' := by
  refine hb.trans ⟨h.touch.os, h.touch.tape, h.touch.output, h.touch.size, fun i hi => ?_⟩
  have hs := hb.size
  exact h.touch.block i (by omega) (fun ho => by have := hg i ho; omega)

/-- is one ahead of the other? -/
def ltW (a b : Wt) : Bool := decide (a.1 < b.1) || (decide (a.1 = b.1) && (Op.bytesLess a.2.1.toList b.2.1.toList || (a.2.1.toList == b.2.1.toList && (!a.2.2 && b.2.2))))
theorem blt (x y : List UInt8) : Op.bytesLess x y = decide (x < y) := by
  induction x generalizing y with
  | nil => cases y <;> simp [Op.bytesLess]
  | cons a x ih =>
    cases y with
    | nil => simp [Op.bytesLess]
    | cons b y =>
      rw [Op.bytesLess, ih]
      simp only [List.cons_lt_cons_iff]
      by_cases h1 : a < b <;> by_cases h2 : a = b <;> by_cases h3 : x < y <;> simp [h1, h2, h3]
theorem str_eq {a b : ByteArray} (h : a.toList = b.toList) : a = b := by
  rw [Lib.toList_data, Lib.toList_data] at h
  cases a; cases b
  simpa using h
def Lt (a b : Wt) : Prop := a.1 < b.1 ∨ a.1 = b.1 ∧ (a.2.1.toList < b.2.1.toList ∨ a.2.1.toList = b.2.1.toList ∧ a.2.2 = false ∧ b.2.2 = true)
theorem ltW_iff (a b : Wt) : ltW a b = true ↔ Lt a b := by
  unfold ltW Lt
  rw [blt]
  simp
theorem Lt.irrefl (a : Wt) : ¬ Lt a a := by
  rintro (h | ⟨_, h | ⟨_, h, h2⟩⟩)
  · omega
  · exact List.lt_irrefl _ h
  · rw [h] at h2; cases h2
theorem Lt.trans {a b c : Wt} (h : Lt a b) (k : Lt b c) : Lt a c := by
  rcases h with h | ⟨e, h⟩
  · rcases k with k | ⟨e', _⟩
    · exact .inl (by omega)
    · exact .inl (by omega)
  · rcases k with k | ⟨e', k⟩
    · exact .inl (by omega)
    · refine .inr ⟨by omega, ?_⟩
      rcases h with h | ⟨h, h1, h2⟩
      · rcases k with k | ⟨k, _, _⟩
        · exact .inl (List.lt_trans h k)
        · exact .inl (k ▸ h)
      · rcases k with k | ⟨k, k1, k2⟩
        · exact .inl (h ▸ k)
        · rw [h2] at k1; cases k1
theorem Lt.total (a b : Wt) : Lt a b ∨ a = b ∨ Lt b a := by
  rcases Int.lt_trichotomy a.1 b.1 with h | h | h
  · exact .inl (.inl h)
  · by_cases h1 : a.2.1.toList < b.2.1.toList
    · exact .inl (.inr ⟨h, .inl h1⟩)
    · by_cases h2 : b.2.1.toList < a.2.1.toList
      · exact .inr (.inr (.inr ⟨h.symm, .inl h2⟩))
      · have h3 : a.2.1.toList = b.2.1.toList := List.le_antisymm (List.not_lt.1 h2) (List.not_lt.1 h1)
        obtain ⟨a0, a1, a2⟩ := a
        obtain ⟨b0, b1, b2⟩ := b
        simp only at h h3
        obtain rfl := h
        obtain rfl := str_eq h3
        cases a2 <;> cases b2
        · exact .inr (.inl rfl)
        · exact .inl (.inr ⟨rfl, .inr ⟨rfl, rfl, rfl⟩⟩)
        · exact .inr (.inr (.inr ⟨rfl, .inr ⟨rfl, rfl, rfl⟩⟩))
        · exact .inr (.inl rfl)
  · exact .inr (.inr (.inl h))
theorem Lt.asymm {a b : Wt} (h : Lt a b) (k : Lt b a) : False := Lt.irrefl a (h.trans k)
instance (a b : Wt) : Decidable (Lt a b) := decidable_of_iff _ (ltW_iff a b)
/-- the rising order. -/
abbrev Rises (L : List Wt) : Prop := L.Pairwise Lt
def cmpI (a b : Int) : Int := if a < b then -1 else if b < a then 1 else 0
def cmpS (a b : ByteArray) : Int := if a.toList < b.toList then -1 else if b.toList < a.toList then 1 else 0
def rankW (p : Wt) : Int := if p.2.2 then 1 else 0
def or3 (a b c : Int) : Int := if a ≠ 0 then a else if b ≠ 0 then b else c
def cmpW (a b : Wt) : Int := or3 (cmpI a.1 b.1) (cmpS a.2.1 b.2.1) (cmpI (rankW a) (rankW b))
theorem cmpW_lt {a b : Wt} (h : Lt a b) : cmpW a b = -1 := by
  rcases h with h | ⟨h, h1 | ⟨h1, h2, h3⟩⟩
  · simp [cmpW, or3, cmpI, h]
  · simp [cmpW, or3, cmpI, cmpS, h, h1]
  · simp [cmpW, or3, cmpI, cmpS, rankW, h, h1, h2, h3, List.lt_irrefl]
theorem cmpW_gt {a b : Wt} (h : Lt b a) : cmpW a b = 1 := by
  rcases h with h | ⟨h, h1 | ⟨h1, h2, h3⟩⟩
  · have h0 : ¬ a.1 < b.1 := by omega
    simp [cmpW, or3, cmpI, h, h0]
  · have h0 : ¬ a.2.1.toList < b.2.1.toList := fun k => List.lt_irrefl _ (List.lt_trans h1 k)
    simp [cmpW, or3, cmpI, cmpS, h, h1, h0]
  · simp [cmpW, or3, cmpI, cmpS, rankW, h, h1, h2, h3, List.lt_irrefl]
theorem cmpW_eq (a : Wt) : cmpW a a = 0 := by simp [cmpW, or3, cmpI, cmpS, List.lt_irrefl]
theorem cmpW_neg (a b : Wt) : cmpW a b < 0 ↔ Lt a b := by
  rcases Lt.total a b with h | rfl | h
  · simp [cmpW_lt h, h]
  · simp [cmpW_eq, Lt.irrefl]
  · simp [cmpW_gt h]; exact fun k => h.asymm k
theorem cmpW_zero (a b : Wt) : (cmpW a b == 0) = (decide (a = b)) := by
  rcases Lt.total a b with h | rfl | h
  · have hn : ¬ a = b := by intro e; rw [e] at h; exact Lt.irrefl b h
    rw [cmpW_lt h, decide_eq_false hn]; rfl
  · simp [cmpW_eq]
  · have hn : ¬ a = b := by intro e; rw [e] at h; exact Lt.irrefl b h
    rw [cmpW_gt h, decide_eq_false hn]; rfl

theorem isNaN_any (a : Int) (w : World) : Calls Tryd.prog 45 #[.int .i64 a] w fun e w' => e = .returned (.bool false) ∧ w = w' := by
  go_enter Tryd.func45, Tryd.ntmps45
  go_wp2
  go_ret
  exact ⟨by simp, rfl⟩
theorem isNaNs_any (a : ByteArray) (w : World) : Calls Tryd.prog 46 #[.string a] w fun e w' => e = .returned (.bool false) ∧ w = w' := by
  go_enter Tryd.func46, Tryd.ntmps46
  go_wp2
  go_ret
  exact ⟨by simp, rfl⟩
theorem compare_any (a b : Int) (w : World) : Calls Tryd.prog 36 #[.int .i64 a, .int .i64 b] w fun e w' => e = .returned (.int .i64 (cmpI a b)) ∧ w = w' := by
  unfold cmpI
  by_cases h1 : a < b
  · go_enter Tryd.func36, Tryd.ntmps36
    go_wp2_with fail
    refine (isNaN_any a _).mono ?_
    rintro e w1 ⟨rfl, rfl⟩
    go_wp2_with fail
    refine (isNaN_any b _).mono ?_
    rintro e w1 ⟨rfl, rfl⟩
    go_wp2
    go_ret
    exact ⟨by simp [h1], rfl⟩
  · by_cases h2 : b < a
    · go_enter Tryd.func36, Tryd.ntmps36
      go_wp2_with fail
      refine (isNaN_any a _).mono ?_
      rintro e w1 ⟨rfl, rfl⟩
      go_wp2_with fail
      refine (isNaN_any b _).mono ?_
      rintro e w1 ⟨rfl, rfl⟩
      go_wp2
      go_ret
      exact ⟨by simp [h1, h2], rfl⟩
    · go_enter Tryd.func36, Tryd.ntmps36
      go_wp2_with fail
      refine (isNaN_any a _).mono ?_
      rintro e w1 ⟨rfl, rfl⟩
      go_wp2_with fail
      refine (isNaN_any b _).mono ?_
      rintro e w1 ⟨rfl, rfl⟩
      go_wp2
      go_ret
      exact ⟨by simp [h1, h2], rfl⟩
theorem compares_any (a b : ByteArray) (w : World) : Calls Tryd.prog 37 #[.string a, .string b] w fun e w' => e = .returned (.int .i64 (cmpS a b)) ∧ w = w' := by
  unfold cmpS
  by_cases h1 : a.toList < b.toList
  · have hl : Op.bytesLess a.toList b.toList = true := by rw [blt]; simpa using h1
    go_enter Tryd.func37, Tryd.ntmps37
    go_wp2_with fail
    refine (isNaNs_any a _).mono ?_
    rintro e w1 ⟨rfl, rfl⟩
    go_wp2_with fail
    refine (isNaNs_any b _).mono ?_
    rintro e w1 ⟨rfl, rfl⟩
    go_wp2
    go_ret
    exact ⟨by simp [h1], rfl⟩
  · have hl : Op.bytesLess a.toList b.toList = false := by rw [blt]; simpa using h1
    by_cases h2 : b.toList < a.toList
    · have he : (a.toList == b.toList) = false := by
        rw [beq_eq_false_iff_ne]
        intro e
        rw [e] at h2
        exact List.lt_irrefl _ h2
      go_enter Tryd.func37, Tryd.ntmps37
      go_wp2_with fail
      refine (isNaNs_any a _).mono ?_
      rintro e w1 ⟨rfl, rfl⟩
      go_wp2_with fail
      refine (isNaNs_any b _).mono ?_
      rintro e w1 ⟨rfl, rfl⟩
      go_wp2
      go_ret
      exact ⟨by simp [h1, h2], rfl⟩
    · have he : (a.toList == b.toList) = true := by
        rw [beq_iff_eq]
        exact List.le_antisymm (List.not_lt.1 h2) (List.not_lt.1 h1)
      go_enter Tryd.func37, Tryd.ntmps37
      go_wp2_with fail
      refine (isNaNs_any a _).mono ?_
      rintro e w1 ⟨rfl, rfl⟩
      go_wp2_with fail
      refine (isNaNs_any b _).mono ?_
      rintro e w1 ⟨rfl, rfl⟩
      go_wp2
      go_ret
      exact ⟨by simp [h1, h2], rfl⟩
theorem rank_any (p : Wt) (w : World) : Calls Tryd.prog 38 #[tv p] w fun e w' => e = .returned (.int .i64 (rankW p)) ∧ Below w.heap.size w w' := by
  obtain ⟨a, s, k⟩ := p
  unfold tv rankW
  cases k
  · go_enter Tryd.func38, Tryd.ntmps38
    go_wp2
    go_ret
    exact ⟨rfl, (Below.refl _ _).alloc (Nat.le_refl _) _⟩
  · go_enter Tryd.func38, Tryd.ntmps38
    go_wp2
    go_ret
    exact ⟨rfl, (Below.refl _ _).alloc (Nat.le_refl _) _⟩
theorem or_any (a b c : Int) (g : Nat) (w : World) (h : Box w g 3 #[.int .i64 a, .int .i64 b, .int .i64 c]) : Calls Tryd.prog 35 #[.slice (some ⟨g, 0, none⟩) 3 3] w fun e w' => e = .returned (.int .i64 (or3 a b c)) ∧ w = w' := by
  have c0 : w.cell? ⟨g, 0, none⟩ = some (.int .i64 a) := h.cell 0
  have c1 : w.cell? ⟨g, 1, none⟩ = some (.int .i64 b) := h.cell 1
  have c2 : w.cell? ⟨g, 2, none⟩ = some (.int .i64 c) := h.cell 2
  clear h
  obtain ⟨r, hr⟩ : ∃ r, or3 a b c = r := ⟨_, rfl⟩
  rw [hr]
  unfold or3 at hr
  go_enter Tryd.func35, Tryd.ntmps35
  go_wp2
  go_loopw [8] (fun i wr => ∃ k : Nat, k ≤ 3 ∧ i = .int .i64 k ∧ (0 < k → a = 0) ∧ (1 < k → b = 0) ∧ (2 < k → c = 0) ∧ w = wr) (fun i _ => 3 - (intOf i).toNat)
  case atStart => exact ⟨0, by omega, rfl, by omega, by omega, by omega, rfl⟩
  case round =>
    obtain ⟨k, hk, rfl, h0, h1, h2, rfl⟩ := hrel
    match k, hk with
    | 0, _ =>
      by_cases ha : a = 0
      · have hn : (a != 0) = false := by simp [ha]
        go_wp2
        go_roundw
        case rel => exact ⟨1, by omega, by go_num, by simp [ha]⟩
        case measure => simp [intOf]
      · have hn : (a != 0) = true := by simp [ha]
        go_wp2
        go_ret
        exact ⟨by rw [← hr, if_pos ha]; rfl, rfl⟩
    | 1, _ =>
      have ha := h0 (by omega)
      by_cases hb : b = 0
      · have hn : (b != 0) = false := by simp [hb]
        go_wp2
        go_roundw
        case rel => exact ⟨2, by omega, by go_num, by simp [ha, hb]⟩
        case measure => simp [intOf]
      · have hn : (b != 0) = true := by simp [hb]
        go_wp2
        go_ret
        exact ⟨by rw [← hr, if_neg (by simp [ha]), if_pos hb]; rfl, rfl⟩
    | 2, _ =>
      have ha := h0 (by omega)
      have hb := h1 (by omega)
      by_cases hc : c = 0
      · have hn : (c != 0) = false := by simp [hc]
        go_wp2
        go_roundw
        case rel => exact ⟨3, by omega, by go_num, by simp [ha, hb, hc]⟩
        case measure => simp [intOf]
      · have hn : (c != 0) = true := by simp [hc]
        go_wp2
        go_ret
        exact ⟨by rw [← hr, if_neg (by simp [ha]), if_neg (by simp [hb])]; rfl, rfl⟩
    | 3, _ =>
      have ha := h0 (by omega)
      have hb := h1 (by omega)
      have hc := h2 (by omega)
      go_wp2
      go_ret
      exact ⟨by rw [← hr, if_neg (by simp [ha]), if_neg (by simp [hb]), hc]; rfl, rfl⟩
end Go.Proofs.YtmcjpochpmiipaaDoor
