/- watcher: events, touches, the functions that Fire and Drop hand to DeleteFunc. Conditions: none. -/
import Derived.Test.YtmcjpochpmiipaaDoorVf
namespace Go.Proofs.YtmcjpochpmiipaaDoor
open Go Go.RowKit Zn
set_option linter.unusedVariables false
set_option linter.unusedSimpArgs false
variable {w w' : World} {base n : Nat} {v : Value} {L : List Wt}
abbrev Ev := Int × Int × ByteArray
def te (p : Ev) : List Value := [.int .i64 p.1, .int .i64 p.2.1, .string p.2.2]
def ev (p : Ev) : Value := .agg #[.int .i64 p.1, .int .i64 p.2.1, .string p.2.2]
def eCells (l : List Ev) : List Value := l.flatMap te
theorem ecells_len (l : List Ev) : (eCells l).length = l.length * 3 := by
  induction l with
  | nil => rfl
  | cons p l ih => simp only [eCells, List.flatMap_cons, List.length_append, List.length_cons] at ih ⊢; rw [ih]; simp [te]; omega
theorem ecells_one (l : List Ev) : ∀ u ∈ eCells l, u.oneCell' = true := by
  intro u hu
  obtain ⟨p, _, hp⟩ := List.mem_flatMap.1 hu
  simp only [te, List.mem_cons, List.not_mem_nil, or_false] at hp
  rcases hp with rfl | rfl | rfl <;> rfl
theorem ecells_snoc (l : List Ev) (p : Ev) : eCells (l ++ [p]) = eCells l ++ te p := by simp [eCells]
theorem ecells_take (l : List Ev) (k : Nat) : (eCells l).take (k * 3) = eCells (l.take k) := by
  induction k generalizing l with
  | zero => simp [eCells]
  | succ k ih =>
    cases l with
    | nil => simp [eCells]
    | cons p l =>
      have : (k + 1) * 3 = k * 3 + 1 + 1 + 1 := by omega
      rw [this]
      have h2 : eCells (p :: l) = .int .i64 p.1 :: .int .i64 p.2.1 :: .string p.2.2 :: eCells l := rfl
      rw [h2, List.take_succ_cons, List.take_succ_cons, List.take_succ_cons, ih]
      rfl
theorem ecells_drop (l : List Ev) (k : Nat) : (eCells l).drop (k * 3) = eCells (l.drop k) := by
  induction k generalizing l with
  | zero => simp
  | succ k ih =>
    cases l with
    | nil => simp [eCells]
    | cons p l =>
      have : (k + 1) * 3 = k * 3 + 1 + 1 + 1 := by omega
      rw [this]
      have h2 : eCells (p :: l) = .int .i64 p.1 :: .int .i64 p.2.1 :: .string p.2.2 :: eCells l := rfl
      rw [h2, List.drop_succ_cons, List.drop_succ_cons, List.drop_succ_cons, ih]
      rfl
theorem ecells_append (l m : List Ev) : eCells (l ++ m) = eCells l ++ eCells m := by simp [eCells]
theorem ecells_get (l : List Ev) (k : Nat) (p : Ev) (h : l[k]? = some p) : (eCells l)[k * 3]? = some (.int .i64 p.1) ∧ (eCells l)[k * 3 + 1]? = some (.int .i64 p.2.1) ∧ (eCells l)[k * 3 + 2]? = some (.string p.2.2) := by
  have hd : l.drop k = p :: l.drop (k + 1) := by
    have hlt := (List.getElem?_eq_some_iff.1 h).1
    rw [List.drop_eq_getElem_cons hlt]
    congr 1
    rw [List.getElem?_eq_getElem hlt] at h
    exact Option.some.inj h
  have hc : (eCells l).drop (k * 3) = te p ++ eCells (l.drop (k + 1)) := by rw [ecells_drop, hd]; rfl
  have h0 : ∀ j, (eCells l)[k * 3 + j]? = (te p ++ eCells (l.drop (k + 1)))[j]? := fun j => by rw [← List.getElem?_drop, hc]
  exact ⟨h0 0, h0 1, h0 2⟩

theorem eown_cells {e : TypeId} {vv : Value} {l : List Ev} (h : w.ownsRow base e 3 vv l.length (eCells l)) (k : Nat) (p : Ev) (hk : l[k]? = some p) :
    ∃ g cap, vv = .slice (some ⟨g, 0, none⟩) l.length cap ∧ g < w.heap.size ∧ w.cell? ⟨g, k * 3, none⟩ = some (.int .i64 p.1) ∧ w.cell? ⟨g, k * 3 + 1, none⟩ = some (.int .i64 p.2.1) ∧ w.cell? ⟨g, k * 3 + 2, none⟩ = some (.string p.2.2) := by
  obtain ⟨h0, h1, h2⟩ := ecells_get l k p hk
  have hlt := (List.getElem?_eq_some_iff.1 hk).1
  rcases h.2 with ⟨_, he⟩ | ⟨g, cap, cur, rfl, hb, hg, _⟩
  · omega
  · have hc := h.cells (g := g) rfl
    have hb : g < w.heap.size := own_lt h g rfl
    refine ⟨g, cap, rfl, hb, ?_, ?_, ?_⟩
    · have := hc _ _ h0; rwa [Addr.add_lit, Nat.zero_add] at this
    · have := hc _ _ h1; rwa [Addr.add_lit, Nat.zero_add] at this
    · have := hc _ _ h2; rwa [Addr.add_lit, Nat.zero_add] at this


theorem row36 : (Tryd.prog.info? 36).map (fun i => (i.zero, i.size, i.bytes)) = some (some (.agg #[.int .i64 0, .int .i64 0, .string ⟨#[]⟩]), 3, 32) := by kernel_rfl
theorem eown_at {g c m : Nat} {e : TypeId} {l : List Ev} (h : w.ownsRow base e 3 (.slice (some ⟨g, 0, none⟩) m c) l.length (eCells l)) (k : Nat) (p : Ev) (hk : l[k]? = some p) :
    w.cell? ⟨g, k * 3, none⟩ = some (.int .i64 p.1) ∧ w.cell? ⟨g, k * 3 + 1, none⟩ = some (.int .i64 p.2.1) ∧ w.cell? ⟨g, k * 3 + 2, none⟩ = some (.string p.2.2) := by
  obtain ⟨g', cap, he, _, d⟩ := eown_cells h k p hk
  obtain ⟨rfl, _⟩ : g = g' ∧ _ := by simpa using he
  exact d
theorem ebox_src {w : World} {xb : Nat} {x : Ev} {c : Nat} (hx : Box w xb 36 #[.int .i64 x.1, .int .i64 x.2.1, .string x.2.2]) : Src w (some ⟨xb, 0, none⟩) 1 3 (te x) := by
  refine ⟨rfl, by simp [te, Value.oneCell'], .inr ⟨_, rfl, fun j u hj => ?_⟩⟩
  rw [Addr.add_lit, Nat.zero_add, hx.cell j]
  simpa [te] using hj
/-- does an event of a kind at a path do a watch? -/
def touchB (k : Int) (s : ByteArray) (p : Wt) : Bool := (s.toList == p.2.1.toList) && (k == 2 || (k == 4 && p.2.2) || ((k == 1 || k == 3) && !p.2.2))
theorem touches_any (e : Ev) (p : Wt) (w : World) : Calls Tryd.prog 31 #[ev e, tv p] w fun r w' => r = .returned (.bool (touchB e.2.1 e.2.2 p)) ∧ Below w.heap.size w w' := by
  have HR := Lib.hid ((((Below.refl w.heap.size w).alloc (Nat.le_refl _) (.cells #[.int .i64 e.1, .int .i64 e.2.1, .string e.2.2] 36)).alloc (by simp) (.cells #[.int .i64 p.1, .string p.2.1, .bool p.2.2] 31)))
  obtain ⟨e0, k, s⟩ := e
  obtain ⟨p0, t, q⟩ := p
  unfold ev tv
  simp only [touchB]
  simp only at HR
  by_cases hs : s.toList = t.toList
  rotate_left
  · have hE : (s.toList == t.toList) = false := by simpa using hs
    rw [hE]
    go_enter Tryd.func31, Tryd.ntmps31
    go_wp2
    go_ret
    exact ⟨rfl, HR.out⟩
  have hE : (s.toList == t.toList) = true := by simpa using hs
  rw [hE]
  by_cases h2 : k = 2
  · subst h2
    go_enter Tryd.func31, Tryd.ntmps31
    go_wp2
    go_ret
    exact ⟨rfl, HR.out⟩
  have k2 : (k == 2) = false := by simpa using h2
  rw [k2]
  by_cases h4 : k = 4
  · subst h4
    cases q
    · go_enter Tryd.func31, Tryd.ntmps31
      go_wp2
      go_ret
      exact ⟨rfl, HR.out⟩
    · go_enter Tryd.func31, Tryd.ntmps31
      go_wp2
      go_ret
      exact ⟨rfl, HR.out⟩
  have k4 : (k == 4) = false := by simpa using h4
  rw [k4]
  by_cases h1 : k = 1
  · subst h1
    cases q
    · go_enter Tryd.func31, Tryd.ntmps31
      go_wp2
      go_ret
      exact ⟨rfl, HR.out⟩
    · go_enter Tryd.func31, Tryd.ntmps31
      go_wp2
      go_ret
      exact ⟨rfl, HR.out⟩
  have k1 : (k == 1) = false := by simpa using h1
  rw [k1]
  by_cases h3 : k = 3
  · subst h3
    cases q
    · go_enter Tryd.func31, Tryd.ntmps31
      go_wp2
      go_ret
      exact ⟨rfl, HR.out⟩
    · go_enter Tryd.func31, Tryd.ntmps31
      go_wp2
      go_ret
      exact ⟨rfl, HR.out⟩
  have k3 : (k == 3) = false := by simpa using h3
  rw [k3]
  go_enter Tryd.func31, Tryd.ntmps31
  go_wp2
  go_ret
  exact ⟨rfl, HR.out⟩

/-- what the function of Fire keeps: the event, and what was told (the sessions). -/
structure FSt (B be bt : Nat) (kd : Int) (pa : ByteArray) (k : Nat) (s : Int × List Int) (w : World) : Prop where
  ebox : Box w be 36 #[.int .i64 s.1, .int .i64 kd, .string pa]
  tbox : ∃ vt, Box w bt 40 #[vt] ∧ w.ownsRow B 36 3 vt s.2.length (eCells (s.2.map fun x => (x, kd, pa))) ∧ vt.ownBlock ≠ some be
  len : s.2.length ≤ k
  ge : B ≤ be ∧ B ≤ bt
def stepF (kd : Int) (pa : ByteArray) (s : Int × List Int) (p : Wt) : Int × List Int :=
  if touchB kd pa p then (p.1, if s.2.getLast? = some p.1 then s.2 else s.2 ++ [p.1]) else s
theorem FSt.stay {B be bt : Nat} {kd : Int} {pa : ByteArray} {k : Nat} {s : Int × List Int} (h : FSt B be bt kd pa k s w) (hk : ∀ i, B ≤ i → i < w.heap.size → w'.heap[i]? = w.heap[i]?) : FSt B be bt kd pa k s w' := by
  obtain ⟨vt, h1, h2, h3⟩ := h.tbox
  exact ⟨(hk be h.ge.1 h.ebox.lt).trans h.ebox, ⟨vt, (hk bt h.ge.2 h1.lt).trans h1, own_stays h2 (fun i hi => hk i (own_ge h2 i hi) (own_lt h2 i hi)), h3⟩, h.len, h.ge⟩
theorem last_cell {l : List Int} {kd : Int} {pa : ByteArray} {x : Int} (hl : l.getLast? = some x) : (l.map fun x => (x, kd, pa))[l.length - 1]? = some (x, kd, pa) := by
  rw [List.getLast?_eq_getElem?] at hl
  rw [List.getElem?_map, hl]; rfl
set_option maxRecDepth 4000 in
set_option maxHeartbeats 2000000 in
theorem fire1_any {B be bt : Nat} {kd : Int} {pa : ByteArray} (k : Nat) (s : Int × List Int) (p : Wt) (w0 wi : World) (hk : k < 1000) (hB : B ≤ w0.heap.size) (h : FSt B be bt kd pa k s w0) (hsz : w0.heap.size ≤ wi.heap.size) (hst : ∀ i, B ≤ i → i < w0.heap.size → wi.heap[i]? = w0.heap[i]?) :
    Calls Tryd.prog 30 #[tv p, .pointer (some ⟨be, 0, none⟩), .pointer (some ⟨bt, 0, none⟩)] wi fun e w' => e = .returned (.bool (touchB kd pa p)) ∧ FSt B be bt kd pa (k + 1) (stepF kd pa s p) w' ∧ Below B wi w' ∧ ∀ i, w0.heap.size ≤ i → i < wi.heap.size → w'.heap[i]? = wi.heap[i]? := by
  obtain ⟨vt, ht0, ho0, _⟩ := h.tbox
  have hbe0 := h.ebox.lt
  have hbt0 := ht0.lt
  have hvt0 : ∀ i, vt.ownBlock = some i → i < w0.heap.size := own_lt ho0
  have hE0 : Box wi be 36 #[.int .i64 s.1, .int .i64 kd, .string pa] := (hst be h.ge.1 hbe0).trans h.ebox
  have hT0 : Box wi bt 40 #[vt] := (hst bt h.ge.2 hbt0).trans ht0
  have hO0 : wi.ownsRow B 36 3 vt s.2.length (eCells (s.2.map fun x => (x, kd, pa))) := own_stays ho0 (fun i hi => hst i (own_ge ho0 i hi) (own_lt ho0 i hi))
  have hne0 : vt.ownBlock ≠ some be := by assumption
  have hle := h.len
  have hge := h.ge
  clear h ht0 ho0 hst
  have hbl : be < wi.heap.size := by omega
  have hbl2 : bt < wi.heap.size := by omega
  have HOW := Lib.hid hO0
  have HEW := Lib.hid hE0
  have HTW := Lib.hid hT0
  obtain ⟨ad, c, rfl, hcap⟩ := own_shape hO0
  obtain ⟨c0, ss⟩ := s
  simp only at hE0 hO0 hle hcap HOW HEW HTW hne0 hvt0 ⊢
  have B0 := Lib.hid ((Below.refl wi.heap.size wi).alloc (Nat.le_refl _) (.cells #[.int .i64 p.1, .string p.2.1, .bool p.2.2] 31))
  have HX := Lib.hid (Box.new wi 31 #[.int .i64 p.1, .string p.2.1, .bool p.2.2])
  have hE := Lib.hid (hE0.alloc (.cells #[.int .i64 p.1, .string p.2.1, .bool p.2.2] 31))
  have hT := Lib.hid (hT0.alloc (.cells #[.int .i64 p.1, .string p.2.1, .bool p.2.2] 31))
  have hO := Lib.hid (own_stays hO0 (w' := wi.alloc (.cells #[.int .i64 p.1, .string p.2.1, .bool p.2.2] 31)) (fun i hi => Below.heap_alloc wi _ i (own_lt hO0 i hi)))
  have e0 : wi.cell? ⟨be, 0, none⟩ = some (.int .i64 c0) := hE0.cell 0
  have e1 : wi.cell? ⟨be, 1, none⟩ = some (.int .i64 kd) := hE0.cell 1
  have e2 : wi.cell? ⟨be, 2, none⟩ = some (.string pa) := hE0.cell 2
  have C1 := Lib.hid (touches_any (c0, kd, pa) p (wi.alloc (.cells #[.int .i64 p.1, .string p.2.1, .bool p.2.2] 31)))
  obtain ⟨q, hq⟩ : ∃ q, q = touchB kd pa p := ⟨_, rfl⟩
  unfold ev tv at C1
  simp only at C1
  rw [← hq] at C1 ⊢
  have HQ := Lib.hid hq
  clear hE0 hT0 hO0 hq
  unfold tv
  go_enter Tryd.func30, Tryd.ntmps30
  go_wp2_with fail
  refine C1.out.mono ?_
  rintro r w2 ⟨rfl, b2⟩
  have B2 := Lib.hid (B0.out.trans (b2.mono B0.out.size))
  have HX2 := Lib.hid (HX.out.below b2 HX.out.lt)
  have hE2 := Lib.hid (hE.out.below b2 hE.out.lt)
  have hT2 := Lib.hid (hT.out.below b2 hT.out.lt)
  have hO2 := Lib.hid (own_below hO.out b2 (Nat.le_refl _))
  clear C1 b2 e0 e1 e2
  cases q
  · go_wp2
    go_ret
    have hs : stepF kd pa (c0, ss) p = (c0, ss) := by rw [stepF, ← HQ.out]; rfl
    rw [hs]
    exact ⟨rfl, ⟨hE2.out, ⟨_, hT2.out, hO2.out, hne0⟩, by simp only; omega, hge⟩, B2.out.mono (by omega), fun i _ hi => B2.out.block i hi⟩
  have e0 : w2.cell? ⟨be, 0, none⟩ = some (.int .i64 c0) := hE2.out.cell 0
  have f0 := hE2.out.frozen 0
  have hbe2 := hE2.out.lt
  have x0 : w2.cell? ⟨wi.heap.size, 0, none⟩ = some (.int .i64 p.1) := HX2.out.cell 0
  have hstep : stepF kd pa (c0, ss) p = (p.1, if ss.getLast? = some p.1 then ss else ss ++ [p.1]) := by rw [stepF, ← HQ.out]; rfl
  have HSTEP := Lib.hid hstep
  clear hstep
  go_wp2_with fail
  clear e0 f0 x0
  have hE3 := Lib.hid (hE2.out.set 0 (.int .i64 p.1))
  have hbt : bt ≠ be := fun e => by
    have h1 := hE2.out
    have h2 := hT2.out
    rw [e] at h2
    unfold Box at h1 h2
    rw [h1] at h2
    simp at h2
  have hT3 := Lib.hid (hT2.out.set_other (p := ⟨be, 0, none⟩) hbt (.int .i64 p.1))
  have hO3 := Lib.hid (own_stays hO2.out (w' := w2.setCell ⟨be, 0, none⟩ (.int .i64 p.1)) (fun i hi => Below.heap_setCell _ _ _ _ (by rintro rfl; exact hne0 hi)))
  have hnb : wi.heap.size ≠ be := by omega
  have HX3 := Lib.hid (HX2.out.set_other (p := ⟨be, 0, none⟩) hnb (.int .i64 p.1))
  have T3 := Lib.hid ((Touch.of_below (S := fun i => i = be ∨ i = bt ∨ (Value.slice ad ss.length c).ownBlock = some i) B2.out).setCell (p := ⟨be, 0, none⟩) (.inl rfl) (.int .i64 p.1))
  simp only [List.setIfInBounds_toArray, List.set_cons_zero] at hE3
  generalize w2.setCell ⟨be, 0, none⟩ (.int .i64 p.1) = w3 at hE3 hT3 hO3 HX3 T3 ⊢
  have HFIN : Hid (∀ w', Touch (fun i => i = be ∨ i = bt ∨ (Value.slice ad ss.length c).ownBlock = some i) wi w' → Below B wi w' ∧ ∀ i, w0.heap.size ≤ i → i < wi.heap.size → w'.heap[i]? = wi.heap[i]?) := by
    intro w' ht
    refine ⟨ht.below (fun i hi => ⟨by omega, ?_⟩), fun i h1 h2 => ht.block i h2 ?_⟩
    · rintro (rfl | rfl | h)
      · omega
      · omega
      · have := own_ge HOW.out i h; omega
    · rintro (rfl | rfl | h)
      · omega
      · omega
      · have := hvt0 i h; omega
  by_cases hss : ss = []
  · subst hss
    refine wp_region_below (w0 := w3) (B := w3.heap.size) (by kernel_rfl) (by kernel_rfl) (Below.refl _ _) ?_
    go_big_quiet_want; apply quiet_value; (· (intro w hw; have h := hT3.out.below hw hT3.out.lt; have t0 : w.cell? ⟨bt, 0, none⟩ = some (.slice ad ([] : List Int).length c) := h.cell 0; go_simp; try rfl)); simp only [Act.put, List.setIfInBounds_toArray, List.set_cons_succ, List.set_cons_zero]; go_big_quiet_on
    go_big_quiet_want; apply quiet_value; (· (intro w hw; go_simp; try rfl)); simp only [Act.put, List.setIfInBounds_toArray, List.set_cons_succ, List.set_cons_zero]; go_big_quiet_on
    go_big_quiet_want; apply quiet_value (v := .bool true); (· (intro w hw; go_simp; try rfl)); simp only [Act.put, List.setIfInBounds_toArray, List.set_cons_succ, List.set_cons_zero]; go_big_quiet_on
    go_big_quiet_want; go_big_quiet_op; go_big_quiet_on
    go_big_quiet_skip
    go_big_quiet_skip
    go_big_quiet_skip
    go_big_quiet_skip
    go_big_quiet_skip
    go_big_quiet_skip
    go_big_quiet_skip
    go_big_quiet_skip
    go_big_quiet_skip
    go_big_quiet_skip
    go_big_quiet_want; apply quiet_value (v := .bool true); (· (intro w hw; go_simp; try rfl)); simp only [Act.put, List.setIfInBounds_toArray, List.set_cons_succ, List.set_cons_zero]; go_big_quiet_on
    refine wpQuiet_nil ?_
    intro w4 b4
    have hE4 := Lib.hid (hE3.out.below b4 hE3.out.lt)
    have hT4 := Lib.hid (hT3.out.below b4 hT3.out.lt)
    have hO4 := Lib.hid (own_below hO3.out b4 (Nat.le_refl _))
    have T4 := Lib.hid (T3.out.trans (Touch.of_below b4))
    obtain ⟨i0, hi, hz0, hz1, hz2⟩ := info_parts row36
    have HI := Lib.hid hi
    have HZZ := Lib.hid hz0
    have t0 : w4.cell? ⟨bt, 0, none⟩ = some (.slice ad ([] : List Int).length c) := hT4.out.cell 0
    have e0 : w4.cell? ⟨be, 0, none⟩ = some (.int .i64 p.1) := hE4.out.cell 0
    have e1 : w4.cell? ⟨be, 1, none⟩ = some (.int .i64 kd) := hE4.out.cell 1
    have e2 : w4.cell? ⟨be, 2, none⟩ = some (.string pa) := hE4.out.cell 2
    have hE5 := Lib.hid (hE4.out.alloc (.cells #[.int .i64 p.1, .int .i64 kd, .string pa] 36))
    have hT5 := Lib.hid (hT4.out.alloc (.cells #[.int .i64 p.1, .int .i64 kd, .string pa] 36))
    have hO5 := Lib.hid (own_stays hO4.out (w' := w4.alloc (.cells #[.int .i64 p.1, .int .i64 kd, .string pa] 36)) (fun i hi => Below.heap_alloc w4 _ i (own_lt hO4.out i hi)))
    have HSRC := Lib.hid (ebox_src (c := 1) (x := (p.1, kd, pa)) (Box.new w4 36 #[.int .i64 p.1, .int .i64 kd, .string pa]))
    have T5 := Lib.hid (T4.out.alloc (.cells #[.int .i64 p.1, .int .i64 kd, .string pa] 36))
    have hB5 := Lib.hid (show B ≤ (w4.alloc (.cells #[.int .i64 p.1, .int .i64 kd, .string pa] 36)).heap.size from Nat.le_trans (by omega) T5.out.size)
    have hbt4 := hT4.out.lt
    clear hi hz0 b4
    go_wp2_with (at_builtin; refine wpList_append_at rfl (.tmp 27) (.tmp 29) 40 rfl B 36 i0 _ 3 32 Tryd.underlying40 HI.out HZZ.out hz1 hz2 rfl (by decide) _ _ _ rfl hO5.out _ _ _ _ rfl HSRC.out ?c2 ?c3 hB5.out ?_)
    case c2 => unfold maxLen; first | (simp only [List.length_nil]; omega) | omega
    case c3 => first | (simp only [List.length_nil]; omega) | omega
    intro v6 w6 own6 g6 at6
    obtain ⟨ad6, c6, rfl, hc6⟩ := own_shape own6
    have hT6 := Lib.hid (hT5.out.grown g6 (fun e => own_box_ne hO5.out hT5.out (by decide) e.symm))
    have hE6 := Lib.hid (hE5.out.grown g6 (fun e => hne0 e.symm))
    have T6 := Lib.hid (T5.out.grown g6 (fun i hi => .inl (.inr (.inr hi))))
    have hO6 := Lib.hid own6
    have hne6 := Lib.hid (show (Value.slice ad6 (([] : List Int).length + 1) c6).ownBlock ≠ some be by
      show (Value.slice ad6 1 c6).ownBlock ≠ some be
      rcases at6 with h | h
      · rw [h]; exact hne0
      · rw [h]; intro e; have h1 : w4.heap.size + 1 = be := Option.some.inj e; have h2 := hE4.out.lt; omega)
    have t6 : w6.cell? ⟨bt, 0, none⟩ = some (.slice ad ([] : List Int).length c) := hT6.out.cell 0
    have f6 := hT6.out.frozen 0
    have hbt6 := hT6.out.lt
    clear own6 g6 at6 t0 e0 e1 e2
    go_wp2
    go_ret
    have hs : stepF kd pa (c0, ([] : List Int)) p = (p.1, ([] : List Int) ++ [p.1]) := by
      rw [HSTEP.out]
      simp
    rw [hs]
    obtain ⟨f1, f2⟩ := HFIN.out _ (T6.out.setCell (p := ⟨bt, 0, none⟩) (.inr (.inl rfl)) (.slice ad6 (([] : List Int).length + 1) c6))
    refine ⟨rfl, ⟨hE6.out.set_other (p := ⟨bt, 0, none⟩) (fun e => hbt e.symm) _, ⟨_, hT6.out.set 0 _, ?_, hne6.out⟩, by simp only [List.length_append, List.length_cons, List.length_nil]; omega, hge⟩, f1, f2⟩
    have hh : (([] : List Int) ++ [p.1]).length = ([] : List Int).length + 1 := by simp
    have hc : eCells ((([] : List Int) ++ [p.1]).map fun x => (x, kd, pa)) = eCells (([] : List Int).map fun x => (x, kd, pa)) ++ te (p.1, kd, pa) := by rw [List.map_append]; exact ecells_snoc _ _
    simp only
    rw [hh, hc]
    exact own_stays hO6.out (fun i hi => Below.heap_setCell _ _ _ _ (by rintro rfl; exact own_box_ne hO6.out hT6.out (by decide) hi))
  have hpos : 0 < ss.length := List.length_pos_iff.2 hss
  obtain ⟨lx, hlx⟩ : ∃ lx, ss.getLast? = some lx := ⟨_, List.getLast?_eq_some_getLast hss⟩
  obtain ⟨g, cap, he, hg, _⟩ := eown_cells (l := ss.map fun x => (x, kd, pa)) (by rw [List.length_map]; exact hO3.out) (ss.length - 1) _ (last_cell hlx)
  rw [List.length_map] at he
  obtain ⟨rfl, rfl⟩ : ad = some ⟨g, 0, none⟩ ∧ c = cap := by simpa using he
  have hd : ((ss.length : Int) == 0) = false := by simp; omega
  have hlen1 : (ss.length : Int) < 3000 := by omega
  obtain ⟨m, hm⟩ : ∃ m, m = ss.length - 1 := ⟨_, rfl⟩
  have hm1 : (ss.length : Int) - 1 = (m : Int) := by omega
  have hml : m < ss.length := by omega
  have hmw : IntKind.i64.wrap (m : Int) = m := IntWalk.i64_in _ (by omega)
  have HL := Lib.hid (show (ss.map fun x => (x, kd, pa))[m]? = some (lx, kd, pa) by rw [hm]; exact last_cell hlx)
  clear he hg hm
  by_cases hlp : lx = p.1
  · have hn : (lx != p.1) = false := by simpa using hlp
    refine wp_region_below (w0 := w3) (B := w3.heap.size) (by kernel_rfl) (by kernel_rfl) (Below.refl _ _) ?_
    go_big_quiet_want; apply quiet_value; (· (intro w hw; have h := hT3.out.below hw hT3.out.lt; have t0 : w.cell? ⟨bt, 0, none⟩ = some (.slice (some ⟨g, 0, none⟩) ss.length c) := h.cell 0; go_simp; try rfl)); simp only [Act.put, List.setIfInBounds_toArray, List.set_cons_succ, List.set_cons_zero]; go_big_quiet_on
    go_big_quiet_want; apply quiet_value; (· (intro w hw; go_simp; try rfl)); simp only [Act.put, List.setIfInBounds_toArray, List.set_cons_succ, List.set_cons_zero]; go_big_quiet_on
    go_big_quiet_want; apply quiet_value; (· (intro w hw; go_simp; try rfl)); simp only [Act.put, List.setIfInBounds_toArray, List.set_cons_succ, List.set_cons_zero]; go_big_quiet_on
    go_big_quiet_want; go_big_quiet_op; go_big_quiet_on
    go_big_quiet_want; apply quiet_value; (· (intro w hw; have h := hT3.out.below hw hT3.out.lt; have t0 : w.cell? ⟨bt, 0, none⟩ = some (.slice (some ⟨g, 0, none⟩) ss.length c) := h.cell 0; go_simp; try rfl)); simp only [Act.put, List.setIfInBounds_toArray, List.set_cons_succ, List.set_cons_zero]; go_big_quiet_on
    go_big_quiet_want; apply quiet_value; (· (intro w hw; have h := hT3.out.below hw hT3.out.lt; have t0 : w.cell? ⟨bt, 0, none⟩ = some (.slice (some ⟨g, 0, none⟩) ss.length c) := h.cell 0; go_simp; try rfl)); simp only [Act.put, List.setIfInBounds_toArray, List.set_cons_succ, List.set_cons_zero]; go_big_quiet_on
    go_big_quiet_want; apply quiet_value; (· (intro w hw; go_simp; try rfl)); simp only [Act.put, List.setIfInBounds_toArray, List.set_cons_succ, List.set_cons_zero]; go_big_quiet_on
    go_big_quiet_want; apply quiet_value; (· (intro w hw; go_simp; try rfl)); simp only [Act.put, List.setIfInBounds_toArray, List.set_cons_succ, List.set_cons_zero]; go_big_quiet_on
    go_big_quiet_want; apply quiet_value; (· (intro w hw; go_simp; try rfl)); simp only [Act.put, List.setIfInBounds_toArray, List.set_cons_succ, List.set_cons_zero]; go_big_quiet_on
    go_big_quiet_want; apply quiet_value; (· (intro w hw; go_simp; try rfl)); simp only [Act.put, List.setIfInBounds_toArray, List.set_cons_succ, List.set_cons_zero]; go_big_quiet_on
    go_big_quiet_want; apply quiet_value; (· (intro w hw; obtain ⟨d0, d1, d2⟩ := eown_at (l := ss.map fun x => (x, kd, pa)) (own_below (by rw [List.length_map]; exact hO3.out) hw (Nat.le_refl _)) m _ HL.out; go_simp; try rfl)); simp only [Act.put, List.setIfInBounds_toArray, List.set_cons_succ, List.set_cons_zero]; go_big_quiet_on
    go_big_quiet_want; apply quiet_value; (· (intro w hw; go_simp; try rfl)); simp only [Act.put, List.setIfInBounds_toArray, List.set_cons_succ, List.set_cons_zero]; go_big_quiet_on
    go_big_quiet_want; apply quiet_value; (· (intro w hw; have h := HX3.out.below hw HX3.out.lt; have x0 : w.cell? ⟨wi.heap.size, 0, none⟩ = some (.int .i64 p.1) := h.cell 0; go_simp; try rfl)); simp only [Act.put, List.setIfInBounds_toArray, List.set_cons_succ, List.set_cons_zero]; go_big_quiet_on
    go_big_quiet_want; apply quiet_value; (· (intro w hw; go_simp; try rfl)); simp only [Act.put, List.setIfInBounds_toArray, List.set_cons_succ, List.set_cons_zero]; go_big_quiet_on
    go_big_quiet_want; apply quiet_value; (· (intro w hw; go_simp; try rfl)); simp only [Act.put, List.setIfInBounds_toArray, List.set_cons_succ, List.set_cons_zero]; go_big_quiet_on
    refine wpQuiet_nil ?_
    intro w4 b4
    go_wp2
    go_ret
    have hs : stepF kd pa (c0, ss) p = (p.1, ss) := by rw [HSTEP.out, hlx, hlp, if_pos rfl]
    rw [hs]
    obtain ⟨f1, f2⟩ := HFIN.out _ (T3.out.trans (Touch.of_below b4))
    exact ⟨rfl, ⟨hE3.out.below b4 hE3.out.lt, ⟨_, hT3.out.below b4 hT3.out.lt, own_below hO3.out b4 (Nat.le_refl _), hne0⟩, by simp only; omega, hge⟩, f1, f2⟩
  · have hn : (lx != p.1) = true := by simpa using hlp
    refine wp_region_below (w0 := w3) (B := w3.heap.size) (by kernel_rfl) (by kernel_rfl) (Below.refl _ _) ?_
    go_big_quiet_want; apply quiet_value; (· (intro w hw; have h := hT3.out.below hw hT3.out.lt; have t0 : w.cell? ⟨bt, 0, none⟩ = some (.slice (some ⟨g, 0, none⟩) ss.length c) := h.cell 0; go_simp; try rfl)); simp only [Act.put, List.setIfInBounds_toArray, List.set_cons_succ, List.set_cons_zero]; go_big_quiet_on
    go_big_quiet_want; apply quiet_value; (· (intro w hw; go_simp; try rfl)); simp only [Act.put, List.setIfInBounds_toArray, List.set_cons_succ, List.set_cons_zero]; go_big_quiet_on
    go_big_quiet_want; apply quiet_value; (· (intro w hw; go_simp; try rfl)); simp only [Act.put, List.setIfInBounds_toArray, List.set_cons_succ, List.set_cons_zero]; go_big_quiet_on
    go_big_quiet_want; go_big_quiet_op; go_big_quiet_on
    go_big_quiet_want; apply quiet_value; (· (intro w hw; have h := hT3.out.below hw hT3.out.lt; have t0 : w.cell? ⟨bt, 0, none⟩ = some (.slice (some ⟨g, 0, none⟩) ss.length c) := h.cell 0; go_simp; try rfl)); simp only [Act.put, List.setIfInBounds_toArray, List.set_cons_succ, List.set_cons_zero]; go_big_quiet_on
    go_big_quiet_want; apply quiet_value; (· (intro w hw; have h := hT3.out.below hw hT3.out.lt; have t0 : w.cell? ⟨bt, 0, none⟩ = some (.slice (some ⟨g, 0, none⟩) ss.length c) := h.cell 0; go_simp; try rfl)); simp only [Act.put, List.setIfInBounds_toArray, List.set_cons_succ, List.set_cons_zero]; go_big_quiet_on
    go_big_quiet_want; apply quiet_value; (· (intro w hw; go_simp; try rfl)); simp only [Act.put, List.setIfInBounds_toArray, List.set_cons_succ, List.set_cons_zero]; go_big_quiet_on
    go_big_quiet_want; apply quiet_value; (· (intro w hw; go_simp; try rfl)); simp only [Act.put, List.setIfInBounds_toArray, List.set_cons_succ, List.set_cons_zero]; go_big_quiet_on
    go_big_quiet_want; apply quiet_value; (· (intro w hw; go_simp; try rfl)); simp only [Act.put, List.setIfInBounds_toArray, List.set_cons_succ, List.set_cons_zero]; go_big_quiet_on
    go_big_quiet_want; apply quiet_value; (· (intro w hw; go_simp; try rfl)); simp only [Act.put, List.setIfInBounds_toArray, List.set_cons_succ, List.set_cons_zero]; go_big_quiet_on
    go_big_quiet_want; apply quiet_value; (· (intro w hw; obtain ⟨d0, d1, d2⟩ := eown_at (l := ss.map fun x => (x, kd, pa)) (own_below (by rw [List.length_map]; exact hO3.out) hw (Nat.le_refl _)) m _ HL.out; go_simp; try rfl)); simp only [Act.put, List.setIfInBounds_toArray, List.set_cons_succ, List.set_cons_zero]; go_big_quiet_on
    go_big_quiet_want; apply quiet_value; (· (intro w hw; go_simp; try rfl)); simp only [Act.put, List.setIfInBounds_toArray, List.set_cons_succ, List.set_cons_zero]; go_big_quiet_on
    go_big_quiet_want; apply quiet_value; (· (intro w hw; have h := HX3.out.below hw HX3.out.lt; have x0 : w.cell? ⟨wi.heap.size, 0, none⟩ = some (.int .i64 p.1) := h.cell 0; go_simp; try rfl)); simp only [Act.put, List.setIfInBounds_toArray, List.set_cons_succ, List.set_cons_zero]; go_big_quiet_on
    go_big_quiet_want; apply quiet_value; (· (intro w hw; go_simp; try rfl)); simp only [Act.put, List.setIfInBounds_toArray, List.set_cons_succ, List.set_cons_zero]; go_big_quiet_on
    go_big_quiet_want; apply quiet_value; (· (intro w hw; go_simp; try rfl)); simp only [Act.put, List.setIfInBounds_toArray, List.set_cons_succ, List.set_cons_zero]; go_big_quiet_on
    refine wpQuiet_nil ?_
    intro w4 b4
    have hE4 := Lib.hid (hE3.out.below b4 hE3.out.lt)
    have hT4 := Lib.hid (hT3.out.below b4 hT3.out.lt)
    have hO4 := Lib.hid (own_below hO3.out b4 (Nat.le_refl _))
    have T4 := Lib.hid (T3.out.trans (Touch.of_below b4))
    obtain ⟨i0, hi, hz0, hz1, hz2⟩ := info_parts row36
    have HI := Lib.hid hi
    have HZZ := Lib.hid hz0
    have t0 : w4.cell? ⟨bt, 0, none⟩ = some (.slice (some ⟨g, 0, none⟩) ss.length c) := hT4.out.cell 0
    have e0 : w4.cell? ⟨be, 0, none⟩ = some (.int .i64 p.1) := hE4.out.cell 0
    have e1 : w4.cell? ⟨be, 1, none⟩ = some (.int .i64 kd) := hE4.out.cell 1
    have e2 : w4.cell? ⟨be, 2, none⟩ = some (.string pa) := hE4.out.cell 2
    have hE5 := Lib.hid (hE4.out.alloc (.cells #[.int .i64 p.1, .int .i64 kd, .string pa] 36))
    have hT5 := Lib.hid (hT4.out.alloc (.cells #[.int .i64 p.1, .int .i64 kd, .string pa] 36))
    have hO5 := Lib.hid (own_stays hO4.out (w' := w4.alloc (.cells #[.int .i64 p.1, .int .i64 kd, .string pa] 36)) (fun i hi => Below.heap_alloc w4 _ i (own_lt hO4.out i hi)))
    have HSRC := Lib.hid (ebox_src (c := 1) (x := (p.1, kd, pa)) (Box.new w4 36 #[.int .i64 p.1, .int .i64 kd, .string pa]))
    have T5 := Lib.hid (T4.out.alloc (.cells #[.int .i64 p.1, .int .i64 kd, .string pa] 36))
    have hB5 := Lib.hid (show B ≤ (w4.alloc (.cells #[.int .i64 p.1, .int .i64 kd, .string pa] 36)).heap.size from Nat.le_trans (by omega) T5.out.size)
    have hbt4 := hT4.out.lt
    clear hi hz0 b4
    go_wp2_with (at_builtin; refine wpList_append_at rfl (.tmp 27) (.tmp 29) 40 rfl B 36 i0 _ 3 32 Tryd.underlying40 HI.out HZZ.out hz1 hz2 rfl (by decide) _ _ _ rfl hO5.out _ _ _ _ rfl HSRC.out ?c2 ?c3 hB5.out ?_)
    case c2 => unfold maxLen; first | (simp only [List.length_nil]; omega) | omega
    case c3 => first | (simp only [List.length_nil]; omega) | omega
    intro v6 w6 own6 g6 at6
    obtain ⟨ad6, c6, rfl, hc6⟩ := own_shape own6
    have hT6 := Lib.hid (hT5.out.grown g6 (fun e => own_box_ne hO5.out hT5.out (by decide) e.symm))
    have hE6 := Lib.hid (hE5.out.grown g6 (fun e => hne0 e.symm))
    have T6 := Lib.hid (T5.out.grown g6 (fun i hi => .inl (.inr (.inr hi))))
    have hO6 := Lib.hid own6
    have hne6 := Lib.hid (show (Value.slice ad6 (ss.length + 1) c6).ownBlock ≠ some be by
      show (Value.slice ad6 (ss.length + 1) c6).ownBlock ≠ some be
      rcases at6 with h | h
      · rw [h]; exact hne0
      · rw [h]; intro e; have h1 : w4.heap.size + 1 = be := Option.some.inj e; have h2 := hE4.out.lt; omega)
    have t6 : w6.cell? ⟨bt, 0, none⟩ = some (.slice (some ⟨g, 0, none⟩) ss.length c) := hT6.out.cell 0
    have f6 := hT6.out.frozen 0
    have hbt6 := hT6.out.lt
    clear own6 g6 at6 t0 e0 e1 e2
    go_wp2
    go_ret
    have hs : stepF kd pa (c0, ss) p = (p.1, ss ++ [p.1]) := by
      rw [HSTEP.out]
      rw [hlx, if_neg (by simpa using hlp)]
    rw [hs]
    obtain ⟨f1, f2⟩ := HFIN.out _ (T6.out.setCell (p := ⟨bt, 0, none⟩) (.inr (.inl rfl)) (.slice ad6 (ss.length + 1) c6))
    refine ⟨rfl, ⟨hE6.out.set_other (p := ⟨bt, 0, none⟩) (fun e => hbt e.symm) _, ⟨_, hT6.out.set 0 _, ?_, hne6.out⟩, by simp only [List.length_append, List.length_cons, List.length_nil]; omega, hge⟩, f1, f2⟩
    have hh : (ss ++ [p.1]).length = ss.length + 1 := by simp
    have hc : eCells ((ss ++ [p.1]).map fun x => (x, kd, pa)) = eCells (ss.map fun x => (x, kd, pa)) ++ te (p.1, kd, pa) := by rw [List.map_append]; exact ecells_snoc _ _
    simp only
    rw [hh, hc]
    exact own_stays hO6.out (fun i hi => Below.heap_setCell _ _ _ _ (by rintro rfl; exact own_box_ne hO6.out hT6.out (by decide) hi))
theorem fire_clos {B be bt : Nat} {kd : Int} {pa : ByteArray} : Clos B 30 (fun u => #[u, .pointer (some ⟨be, 0, none⟩), .pointer (some ⟨bt, 0, none⟩)]) (touchB kd pa) (stepF kd pa) (FSt B be bt kd pa) :=
  ⟨fun k s p w0 w hk hB h h1 h2 => fire1_any k s p w0 w hk hB h h1 h2, fun k s w w' h _ hk => h.stay hk⟩

/-- the function of Drop. -/
structure DSt (B bs : Nat) (N : Int) (k : Nat) (s : Unit) (w : World) : Prop where
  box : Box w bs 3 #[.int .i64 N]
  ge : B ≤ bs
def dropB (N : Int) (p : Wt) : Bool := p.1 == N
theorem drop1_any {bs : Nat} {N : Int} (p : Wt) (h : Box w bs 3 #[.int .i64 N]) : Calls Tryd.prog 32 #[tv p, .pointer (some ⟨bs, 0, none⟩)] w fun e w' => e = .returned (.bool (dropB N p)) ∧ Below w.heap.size w w' := by
  have c0 : w.cell? ⟨bs, 0, none⟩ = some (.int .i64 N) := h.cell 0
  have hb := h.lt
  unfold tv dropB
  clear h
  go_enter Tryd.func32, Tryd.ntmps32
  go_wp2
  go_ret
  exact ⟨rfl, (Below.refl _ _).alloc (Nat.le_refl _) _⟩
theorem drop_clos {B bs : Nat} {N : Int} : Clos B 32 (fun u => #[u, .pointer (some ⟨bs, 0, none⟩)]) (dropB N) (fun s _ => s) (DSt B bs N) :=
  ⟨fun k s p w0 w hk hB h h1 h2 => (drop1_any p ((h2 bs h.ge h.box.lt).trans h.box)).mono fun e w' ⟨he, hb⟩ => ⟨he, ⟨(hb.block bs (Nat.lt_of_lt_of_le h.box.lt h1)).trans ((h2 bs h.ge h.box.lt).trans h.box), h.ge⟩, hb.mono (Nat.le_trans hB h1), fun i _ hi => hb.block i hi⟩,
   fun k s w w' h _ hk => ⟨(hk bs h.ge h.box.lt).trans h.box, h.ge⟩⟩
end Go.Proofs.YtmcjpochpmiipaaDoor
