/- watcher: what comes in (scripts, lists of watches, events), and what scripts do, in plain words. Conditions: it lies in memory. -/
import Derived.Test.YtmcjpochpmiipaaDoorVn
import Derived.Test.YtmcjpochpmiipaaDoorOpenB
namespace Go.Proofs.YtmcjpochpmiipaaDoor
open Go Go.RowKit Go.ChangeShapes Go.WideShapes Go.ChangeAt Go.Deep
set_option linter.unusedVariables false
set_option linter.unusedSimpArgs false

def oc (o : Op9) : List Value := [.int .i64 o.1, .int .i64 o.2.1, .int .i64 o.2.2.1.1, .string o.2.2.1.2.1, .bool o.2.2.1.2.2, .int .i64 o.2.2.2.1, .int .i64 o.2.2.2.2.1, .string o.2.2.2.2.2]
theorem k3 : Tryd.prog.cellsOf 3 = 1 := by kernel_rfl
theorem k4 : Tryd.prog.cellsOf 4 = 1 := by kernel_rfl
theorem k9 : Tryd.prog.cellsOf 9 = 1 := by kernel_rfl
theorem k29 : Tryd.prog.cellsOf 29 = 3 := by kernel_rfl
theorem k36 : Tryd.prog.cellsOf 36 = 3 := by kernel_rfl
theorem k38 : Tryd.prog.cellsOf 38 = 8 := by kernel_rfl
theorem shape29 {H : Type} {enc : TypeId × Value → H} {W : World} {n : Nat} {r : List Value} {y : DataW H × List MemPlace} (h : DataW.trod enc Tryd.prog W 0 (fun _ => true) true n 29 r = some y) (hr : r.length = 3) : ∃ p : Wt, r = tc p ∧ p.2.1.size ≤ Rows.uptoBulk y.1 := by
  obtain ⟨xs, n', _, hx, _, hlen, hg⟩ := DataW.trod_struct Tryd.underlying29 h
  match r, hr with
  | [c0, c1, c2], _ =>
    match xs, hlen with
    | [y0, y1, y2], _ =>
      have h0 := hg 0 _ rfl
      have h1 := hg 1 _ rfl
      have h2 := hg 2 _ rfl
      simp [k3, k9, k4] at h0 h1 h2
      obtain ⟨a, ha, _⟩ := DataW.trod_int Tryd.underlying3 h0
      obtain ⟨s, hs, hy, _⟩ := DataW.trod_string Tryd.underlying9 h1
      obtain ⟨b, hb, _⟩ := DataW.trod_bool Tryd.underlying4 h2
      simp at ha hs hb
      refine ⟨(a, s, b), by rw [ha, hs, hb]; rfl, ?_⟩
      have hp := agg_part (show y1 ∈ [y0, y1, y2] by simp)
      rw [hx]
      exact str_part (s := s) (Nat.le_trans (Nat.le_of_eq (by rw [hy])) hp)
theorem shape36 {H : Type} {enc : TypeId × Value → H} {W : World} {n : Nat} {r : List Value} {y : DataW H × List MemPlace} (h : DataW.trod enc Tryd.prog W 0 (fun _ => true) true n 36 r = some y) (hr : r.length = 3) : ∃ p : Ev, r = te p := by
  obtain ⟨xs, n', _, hx, _, hlen, hg⟩ := DataW.trod_struct Tryd.underlying36 h
  match r, hr with
  | [c0, c1, c2], _ =>
    match xs, hlen with
    | [y0, y1, y2], _ =>
      have h0 := hg 0 _ rfl
      have h1 := hg 1 _ rfl
      have h2 := hg 2 _ rfl
      simp [k3, k9] at h0 h1 h2
      obtain ⟨a, ha, _⟩ := DataW.trod_int Tryd.underlying3 h0
      obtain ⟨b, hb, _⟩ := DataW.trod_int Tryd.underlying3 h1
      obtain ⟨s, hs, hy, _⟩ := DataW.trod_string Tryd.underlying9 h2
      simp at ha hs hb
      exact ⟨(a, b, s), by rw [ha, hs, hb]; rfl⟩
theorem shape38 {H : Type} {enc : TypeId × Value → H} {W : World} {n : Nat} {r : List Value} {y : DataW H × List MemPlace} (h : DataW.trod enc Tryd.prog W 0 (fun _ => true) true n 38 r = some y) (hr : r.length = 8) : ∃ o : Op9, r = oc o ∧ o.2.2.1.2.1.size ≤ Rows.uptoBulk y.1 := by
  obtain ⟨xs, n', _, hx, _, hlen, hg⟩ := DataW.trod_struct Tryd.underlying38 h
  match r, hr with
  | [c0, c1, c2, c3, c4, c5, c6, c7], _ =>
    match xs, hlen with
    | [y0, y1, y2, y3], _ =>
      have h0 := hg 0 _ rfl
      have h1 := hg 1 _ rfl
      have h2 := hg 2 _ rfl
      have h3 := hg 3 _ rfl
      simp [k3, k29, k36] at h0 h1 h2 h3
      obtain ⟨a, ha, _⟩ := DataW.trod_int Tryd.underlying3 h0
      obtain ⟨b, hb, _⟩ := DataW.trod_int Tryd.underlying3 h1
      obtain ⟨p, hp, hs⟩ := shape29 h2 rfl
      obtain ⟨e, he⟩ := shape36 h3 rfl
      simp [tc, te] at ha hb hp he
      refine ⟨(a, b, p, e), by rw [ha, hb, hp.1, hp.2.1, hp.2.2, he.1, he.2.1, he.2.2]; rfl, ?_⟩
      have hp := agg_part (show y2 ∈ [y0, y1, y2, y3] by simp)
      rw [hx]
      exact Nat.le_trans hs hp
theorem rows_op {B : Nat} {l : List (List Value)} (h : ∀ r ∈ l, ∃ o : Op9, r = oc o ∧ o.2.2.1.2.1.size ≤ B) : ∃ os : List Op9, l = os.map oc ∧ ∀ o ∈ os, o.2.2.1.2.1.size ≤ B := by
  induction l with
  | nil => exact ⟨[], rfl, by simp⟩
  | cons r l ih =>
    obtain ⟨p, rfl, hp⟩ := h r (by simp)
    obtain ⟨ps, rfl, hps⟩ := ih fun r hr => h r (by simp [hr])
    exact ⟨p :: ps, rfl, fun z hz => (List.mem_cons.1 hz).elim (fun e => e ▸ hp) (hps z)⟩
theorem rows_wt {B : Nat} {l : List (List Value)} (h : ∀ r ∈ l, ∃ o : Wt, r = tc o ∧ o.2.1.size ≤ B) : ∃ os : List Wt, l = os.map tc ∧ ∀ o ∈ os, o.2.1.size ≤ B := by
  induction l with
  | nil => exact ⟨[], rfl, by simp⟩
  | cons r l ih =>
    obtain ⟨p, rfl, hp⟩ := h r (by simp)
    obtain ⟨ps, rfl, hps⟩ := ih fun r hr => h r (by simp [hr])
    exact ⟨p :: ps, rfl, fun z hz => (List.mem_cons.1 hz).elim (fun e => e ▸ hp) (hps z)⟩
/-- a script that comes in. -/
def OpsAt (w : World) (a : Option Addr) (len : Nat) (os : List Op9) : Prop := RowsAt w 8 a len (os.map oc) ∧ ∀ o ∈ os, o.2.2.1.2.1.size ≤ 1048576
/-- a list of watches that comes in. -/
def WsAt (w : World) (a : Option Addr) (len : Nat) (ws : List Wt) : Prop := RowsAt w 3 a len (ws.map tc) ∧ ∀ x ∈ ws, x.2.1.size ≤ 1048576
theorem OpsAt.len {w : World} {a : Option Addr} {len : Nat} {os : List Op9} (h : OpsAt w a len os) : os.length = len := by have := h.1.1; rwa [List.length_map] at this
theorem WsAt.len {w : World} {a : Option Addr} {len : Nat} {os : List Wt} (h : WsAt w a len os) : os.length = len := by have := h.1.1; rwa [List.length_map] at this
theorem OpsAt.below {w w' : World} {a : Option Addr} {len B : Nat} {os : List Op9} (h : OpsAt w a len os) (hb : Below B w w') (hB : w.heap.size ≤ B) : OpsAt w' a len os := ⟨h.1.below hb hB, h.2⟩
theorem WsAt.below {w w' : World} {a : Option Addr} {len B : Nat} {os : List Wt} (h : WsAt w a len os) (hb : Below B w w') (hB : w.heap.size ≤ B) : WsAt w' a len os := ⟨h.1.below hb hB, h.2⟩
theorem OpsAt.get {w : World} {a : Option Addr} {len : Nat} {os : List Op9} (h : OpsAt w a len os) (k : Nat) (hk : k < len) :
    ∃ b off o, a = some ⟨b, off, none⟩ ∧ os[k]? = some o ∧ b < w.heap.size ∧ o.2.2.1.2.1.size ≤ 1048576 ∧ w.cell? ⟨b, off + k * 8, none⟩ = some (.int .i64 o.1) ∧ w.cell? ⟨b, off + k * 8 + 1, none⟩ = some (.int .i64 o.2.1) ∧ w.cell? ⟨b, off + k * 8 + 2, none⟩ = some (.int .i64 o.2.2.1.1) ∧
      w.cell? ⟨b, off + k * 8 + 3, none⟩ = some (.string o.2.2.1.2.1) ∧ w.cell? ⟨b, off + k * 8 + 4, none⟩ = some (.bool o.2.2.1.2.2) ∧ w.cell? ⟨b, off + k * 8 + 5, none⟩ = some (.int .i64 o.2.2.2.1) ∧ w.cell? ⟨b, off + k * 8 + 6, none⟩ = some (.int .i64 o.2.2.2.2.1) ∧ w.cell? ⟨b, off + k * 8 + 7, none⟩ = some (.string o.2.2.2.2.2) := by
  have hl := h.len
  obtain ⟨⟨h1, h2⟩, hx⟩ := h
  obtain ⟨b, off, rfl, hb, hc⟩ := h2.resolve_left (by omega)
  have hp : os[k]? = some (os[k]'(by omega)) := List.getElem?_eq_getElem (by omega)
  have hr : (os.map oc)[k]? = some (oc (os[k]'(by omega))) := by rw [List.getElem?_map, hp]; rfl
  exact ⟨b, off, _, rfl, hp, hb, hx _ (List.mem_of_getElem? hp), hc k _ hr 0 _ rfl, hc k _ hr 1 _ rfl, hc k _ hr 2 _ rfl, hc k _ hr 3 _ rfl, hc k _ hr 4 _ rfl, hc k _ hr 5 _ rfl, hc k _ hr 6 _ rfl, hc k _ hr 7 _ rfl⟩
theorem WsAt.get {w : World} {a : Option Addr} {len : Nat} {os : List Wt} (h : WsAt w a len os) (k : Nat) (hk : k < len) :
    ∃ b off o, a = some ⟨b, off, none⟩ ∧ os[k]? = some o ∧ b < w.heap.size ∧ o.2.1.size ≤ 1048576 ∧ w.cell? ⟨b, off + k * 3, none⟩ = some (.int .i64 o.1) ∧ w.cell? ⟨b, off + k * 3 + 1, none⟩ = some (.string o.2.1) ∧ w.cell? ⟨b, off + k * 3 + 2, none⟩ = some (.bool o.2.2) := by
  have hl := h.len
  obtain ⟨⟨h1, h2⟩, hx⟩ := h
  obtain ⟨b, off, rfl, hb, hc⟩ := h2.resolve_left (by omega)
  have hp : os[k]? = some (os[k]'(by omega)) := List.getElem?_eq_getElem (by omega)
  have hr : (os.map tc)[k]? = some (tc (os[k]'(by omega))) := by rw [List.getElem?_map, hp]; rfl
  exact ⟨b, off, _, rfl, hp, hb, hx _ (List.mem_of_getElem? hp), hc k _ hr 0 _ rfl, hc k _ hr 1 _ rfl, hc k _ hr 2 _ rfl⟩
theorem open_ops {H : Type} {enc : TypeId × Value → H} {W : World} {base : Nat} {v : Value} {d : DataW H} {p : List MemPlace} (hv : Value.okWide Tryd.prog W .any base 34 v) (h : DataW.Trod enc Tryd.prog W 0 (fun _ => true) true 34 v d p) (hd : Rows.uptoBulk d ≤ 1048576) :
    ∃ a len cap os, v = .slice a len cap ∧ OpsAt W a len os ∧ len ≤ cap ∧ cap ≤ maxLen := by
  obtain ⟨a, len, cap, rfl⟩ := okWide_slice Tryd.underlying34 hv
  obtain ⟨rows, hr, h1, h2, hs⟩ := open_rows_b Tryd.underlying34 k38 (by omega) h
  obtain ⟨os, rfl, ho⟩ := rows_op (B := 1048576) fun r hrm => by
    obtain ⟨hl, n, y, hy, hb⟩ := hs r hrm
    obtain ⟨o, ho, hz⟩ := shape38 hy hl
    exact ⟨o, ho, by omega⟩
  exact ⟨a, len, cap, os, rfl, ⟨hr, ho⟩, h1, h2⟩
theorem open_ws {H : Type} {enc : TypeId × Value → H} {W : World} {base : Nat} {v : Value} {d : DataW H} {p : List MemPlace} (hv : Value.okWide Tryd.prog W .any base 25 v) (h : DataW.Trod enc Tryd.prog W 0 (fun _ => true) true 25 v d p) (hd : Rows.uptoBulk d ≤ 1048576) :
    ∃ a len cap os, v = .slice a len cap ∧ WsAt W a len os ∧ len ≤ cap ∧ cap ≤ maxLen := by
  obtain ⟨a, len, cap, rfl⟩ := okWide_slice Tryd.underlying25 hv
  obtain ⟨rows, hr, h1, h2, hs⟩ := open_rows_b Tryd.underlying25 k29 (by omega) h
  obtain ⟨os, rfl, ho⟩ := rows_wt (B := 1048576) fun r hrm => by
    obtain ⟨hl, n, y, hy, hb⟩ := hs r hrm
    obtain ⟨o, ho, hz⟩ := shape29 hy hl
    exact ⟨o, ho, by omega⟩
  exact ⟨a, len, cap, os, rfl, ⟨hr, ho⟩, h1, h2⟩
theorem open_ev {H : Type} {enc : TypeId × Value → H} {W : World} {base : Nat} {v : Value} {d : DataW H} {p : List MemPlace} (hv : Value.okWide Tryd.prog W .any base 36 v) (h : DataW.Trod enc Tryd.prog W 0 (fun _ => true) true 36 v d p) : ∃ q : Ev, v = ev q := by
  obtain ⟨cs, rfl, hsz⟩ := okWide_struct Tryd.underlying36 hv
  obtain ⟨fuel, hf⟩ := h
  obtain ⟨q, hq⟩ := shape36 hf (by simpa [Value.cells, k36] using hsz)
  refine ⟨q, ?_⟩
  simp only [Value.cells] at hq
  rw [ev]
  congr 1
  apply Array.ext'
  exact hq

/-- a list behind calls. -/
def playL (os : List Op9) (L : List Wt) : List Wt := os.foldl stepL L
theorem play_next {os : List Op9} {k : Nat} {o : Op9} (h : os[k]? = some o) (L : List Wt) : playL (os.take (k + 1)) L = stepL (playL (os.take k) L) o := by
  unfold playL; rw [List.take_add_one, h, List.foldl_append]; rfl
theorem good_play (os : List Op9) {L : List Wt} (h : Good L) : Good (playL os L) := by
  unfold playL
  induction os generalizing L with
  | nil => exact h
  | cons o os ih => exact ih (h.step o)
theorem add_len (L : List Wt) (x : Wt) : (addL L x).length ≤ L.length + 1 := by
  unfold addL
  split
  · unfold insL; rw [List.length_append, List.length_take, List.length_cons, List.length_drop]; omega
  · omega
theorem step_len (L : List Wt) (o : Op9) : (stepL L o).length ≤ L.length + 1 := by
  unfold stepL
  split
  · exact add_len _ _
  · split
    · have := List.length_filter_le (fun p => !touchB o.2.2.2.2.1 o.2.2.2.2.2 p) L; unfold fireL; omega
    · split
      · have := List.length_filter_le (fun p => !dropB o.2.1 p) L; unfold dropL; omega
      · omega
theorem play_len (os : List Op9) (L : List Wt) : (playL os L).length ≤ L.length + os.length := by
  unfold playL
  induction os generalizing L with
  | nil => exact Nat.le_refl _
  | cons o os ih => have := ih (stepL L o); have := step_len L o; simp only [List.foldl_cons, List.length_cons]; omega
/-- two rows that rise and have the same members are the same. -/
theorem rises_ext : ∀ {A B : List Wt}, Rises A → Rises B → (∀ x, x ∈ A ↔ x ∈ B) → A = B
  | [], [], _, _, _ => rfl
  | [], b :: B, _, _, h => by have := (h b).2 (by simp); cases this
  | a :: A, [], _, _, h => by have := (h a).1 (by simp); cases this
  | a :: A, b :: B, hA, hB, h => by
    obtain ⟨ha, hA'⟩ := List.pairwise_cons.1 hA
    obtain ⟨hb, hB'⟩ := List.pairwise_cons.1 hB
    have hab : a = b := by
      rcases List.mem_cons.1 ((h a).1 (by simp)) with e | e
      · exact e
      · rcases List.mem_cons.1 ((h b).2 (by simp)) with e' | e'
        · exact e'.symm
        · exact absurd (hb a e) (fun k => Lt.asymm k (ha b e'))
    subst hab
    congr 1
    refine rises_ext hA' hB' fun x => ⟨fun hx => ?_, fun hx => ?_⟩
    · rcases List.mem_cons.1 ((h x).1 (by simp [hx])) with e | e
      · exact absurd (ha x hx) (by rw [e]; exact Lt.irrefl _)
      · exact e
    · rcases List.mem_cons.1 ((h x).2 (by simp [hx])) with e | e
      · exact absurd (hb x hx) (by rw [e]; exact Lt.irrefl _)
      · exact e
theorem mem_ins (L : List Wt) (x y : Wt) : x ∈ insL L y ↔ x ∈ L ∨ x = y := by
  have h : x ∈ L ↔ x ∈ L.take (kOf L y) ∨ x ∈ L.drop (kOf L y) := by rw [← List.mem_append, List.take_append_drop]
  unfold insL
  rw [List.mem_append, List.mem_cons, h]
  constructor
  · rintro (h | h | h)
    · exact .inl (.inl h)
    · exact .inr h
    · exact .inl (.inr h)
  · rintro ((h | h) | h)
    · exact .inl h
    · exact .inr (.inr h)
    · exact .inr (.inl h)
theorem mem_add {L : List Wt} {x y : Wt} (hl : L.length < 500) : x ∈ addL L y ↔ x ∈ L ∨ (x = y ∧ okW y = true) := by
  unfold addL
  split
  · rename_i hc
    simp only [Bool.and_eq_true, Bool.not_eq_true', decide_eq_true_eq] at hc
    rw [mem_ins]
    constructor
    · rintro (h | h)
      · exact .inl h
      · exact .inr ⟨h, hc.1.1⟩
    · rintro (h | h)
      · exact .inl h
      · exact .inr h.1
  · rename_i hc
    constructor
    · exact .inl
    · rintro (h | ⟨rfl, h2⟩)
      · exact h
      · have hi : isIn L x = true := by
          cases hi : isIn L x
          · exact absurd (by simp [h2, hi, hl]) hc
          · rfl
        exact (isIn_iff L x).1 hi

theorem fired_rise_aux (kd : Int) (pa : ByteArray) : ∀ (L : List Wt) (s : List Int), Rises L → s.Pairwise (· < ·) → (∀ x ∈ s, ∀ p ∈ L, x ≤ p.1) → (L.foldl (stepT kd pa) s).Pairwise (· < ·)
  | [], s, _, hs, _ => hs
  | p :: L, s, hL, hs, hx => by
    obtain ⟨hp, hL'⟩ := List.pairwise_cons.1 hL
    have hle : ∀ q ∈ L, p.1 ≤ q.1 := fun q hq => by rcases hp q hq with h | ⟨h, _⟩ <;> omega
    rw [List.foldl_cons]
    by_cases ht : touchB kd pa p = true
    · by_cases hg : s.getLast? = some p.1
      · have e : stepT kd pa s p = s := by simp [stepT, ht, hg]
        rw [e]
        exact fired_rise_aux kd pa L s hL' hs (fun x h q hq => hx x h q (by simp [hq]))
      · have e : stepT kd pa s p = s ++ [p.1] := by simp [stepT, ht, hg]
        rw [e]
        refine fired_rise_aux kd pa L _ hL' ?_ ?_
        · rw [List.pairwise_append]
          refine ⟨hs, by simp, fun a ha b hb => ?_⟩
          obtain rfl : b = p.1 := by simpa using hb
          have h1 := hx a ha p (by simp)
          rcases Int.lt_or_eq_of_le h1 with h2 | h2
          · exact h2
          · exfalso
            obtain ⟨l, hl⟩ : ∃ l, s.getLast? = some l := ⟨_, List.getLast?_eq_some_getLast (List.ne_nil_of_mem ha)⟩
            obtain ⟨s', rfl⟩ := List.getLast?_eq_some_iff.1 hl
            have h3 := hx l (by simp) p (by simp)
            rcases List.mem_append.1 ha with h4 | h4
            · have := (List.pairwise_append.1 hs).2.2 a h4 l (by simp)
              omega
            · have h5 : a = l := by simpa using h4
              exact hg (by rw [hl, ← h5, h2])
        · intro x h q hq
          rcases List.mem_append.1 h with h | h
          · exact hx x h q (by simp [hq])
          · have : x = p.1 := by simpa using h
            rw [this]
            exact hle q hq
    · have e : stepT kd pa s p = s := by simp [stepT, ht]
      rw [e]
      exact fired_rise_aux kd pa L s hL' hs (fun x h q hq => hx x h q (by simp [hq]))
theorem fired_rise (kd : Int) (pa : ByteArray) {L : List Wt} (h : Rises L) : (firedS kd pa L).Pairwise (· < ·) := fired_rise_aux kd pa L [] h List.Pairwise.nil (fun x hx => by cases hx)
theorem fired_none_aux (kd : Int) (pa : ByteArray) : ∀ (L : List Wt) (s : List Int), (∀ p ∈ L, touchB kd pa p = false) → L.foldl (stepT kd pa) s = s
  | [], s, _ => rfl
  | p :: L, s, h => by
    rw [List.foldl_cons, show stepT kd pa s p = s by simp [stepT, h p (by simp)]]
    exact fired_none_aux kd pa L s (fun q hq => h q (by simp [hq]))
theorem fired_again (kd : Int) (pa : ByteArray) (L : List Wt) : firedE kd pa (fireL kd pa L) = [] := by
  unfold firedE firedS
  rw [fired_none_aux kd pa _ [] (fun p hp => by simpa using (List.mem_filter.1 hp).2)]
  rfl
theorem fired_len_aux (kd : Int) (pa : ByteArray) : ∀ (L : List Wt) (s : List Int), (L.foldl (stepT kd pa) s).length ≤ s.length + L.length
  | [], s => Nat.le_refl _
  | p :: L, s => by
    have h := fired_len_aux kd pa L (stepT kd pa s p)
    have h2 : (stepT kd pa s p).length ≤ s.length + 1 := by unfold stepT; split <;> (try split) <;> simp
    rw [List.foldl_cons, List.length_cons]
    omega
theorem firedE_len (kd : Int) (pa : ByteArray) (L : List Wt) : (firedE kd pa L).length ≤ L.length := by
  unfold firedE; rw [List.length_map]; have := fired_len_aux kd pa L []; simpa [firedS] using this
theorem fired_from_aux (kd : Int) (pa : ByteArray) : ∀ (L : List Wt) (s : List Int) (x : Int), x ∈ L.foldl (stepT kd pa) s → x ∈ s ∨ ∃ p ∈ L, p.1 = x
  | [], s, x, h => .inl h
  | p :: L, s, x, h => by
    rcases fired_from_aux kd pa L _ x h with h | ⟨q, hq, e⟩
    · unfold stepT at h
      split at h
      · split at h
        · exact .inl h
        · rcases List.mem_append.1 h with h | h
          · exact .inl h
          · exact .inr ⟨p, by simp, (show x = p.1 by simpa using h).symm⟩
      · exact .inl h
    · exact .inr ⟨q, by simp [hq], e⟩
theorem firedE_from {kd : Int} {pa : ByteArray} {L : List Wt} {e : Ev} (h : e ∈ firedE kd pa L) : ∃ p ∈ L, p.1 = e.1 := by
  unfold firedE at h
  obtain ⟨x, hx, rfl⟩ := List.mem_map.1 h
  rcases fired_from_aux kd pa L [] x hx with h | h
  · cases h
  · exact h
theorem firedE_at {kd : Int} {pa : ByteArray} {L : List Wt} {e : Ev} (h : e ∈ firedE kd pa L) : e.2.1 = kd ∧ e.2.2 = pa := by
  unfold firedE at h
  obtain ⟨x, hx, rfl⟩ := List.mem_map.1 h
  exact ⟨rfl, rfl⟩
theorem firedE_lt {kd : Int} {pa : ByteArray} {L : List Wt} (hL : Rises L) {j : Nat} {e f : Ev} (he : (firedE kd pa L)[j]? = some e) (hf : (firedE kd pa L)[j + 1]? = some f) : e.1 < f.1 := by
  have h := fired_rise kd pa hL
  unfold firedE at he hf
  rw [List.getElem?_map] at he hf
  obtain ⟨x, hx, rfl⟩ := Option.map_eq_some_iff.1 he
  obtain ⟨y, hy, rfl⟩ := Option.map_eq_some_iff.1 hf
  obtain ⟨h1, e1⟩ := List.getElem?_eq_some_iff.1 hx
  obtain ⟨h2, e2⟩ := List.getElem?_eq_some_iff.1 hy
  have := List.pairwise_iff_getElem.1 h j (j + 1) h1 h2 (by omega)
  rw [e1, e2] at this
  exact this
end Go.Proofs.YtmcjpochpmiipaaDoor
