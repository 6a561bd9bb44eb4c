/- parcels: the state of a net; Apart, Send, Len, At. Conditions: the net lies in the call's own memory. -/
import Derived.Test.YtejoggbebmmlkaaWd
import Derived.Test.YtejoggbebmmlkaaWe
namespace Go.Proofs.Ytejoggbebmmlkaa
open Go.RowKit

abbrev Pk := Int × Int × ByteArray
def pc (p : Pk) : List Value := [.int .i64 p.1, .int .i64 p.2.1, .string p.2.2]
def pv (p : Pk) : Value := .agg #[.int .i64 p.1, .int .i64 p.2.1, .string p.2.2]
def cellsOf (l : List Pk) : List Value := l.flatMap pc
theorem cells_len (l : List Pk) : (cellsOf l).length = l.length * 3 := by
  induction l with
  | nil => rfl
  | cons p l ih => simp only [cellsOf, List.flatMap_cons, List.length_append, List.length_cons] at ih ⊢; rw [ih]; simp [pc]; omega
theorem cells_one (l : List Pk) : ∀ u ∈ cellsOf l, u.oneCell' = true := by
  intro u hu
  obtain ⟨p, _, hp⟩ := List.mem_flatMap.1 hu
  simp only [pc, List.mem_cons, List.not_mem_nil, or_false] at hp
  rcases hp with rfl | rfl | rfl <;> rfl
theorem cells_snoc (l : List Pk) (p : Pk) : cellsOf (l ++ [p]) = cellsOf l ++ pc p := by simp [cellsOf]
theorem cells_take (l : List Pk) (k : Nat) : (cellsOf l).take (k * 3) = cellsOf (l.take k) := by
  induction k generalizing l with
  | zero => simp [cellsOf]
  | succ k ih =>
    cases l with
    | nil => simp [cellsOf]
    | cons p l =>
      have : (k + 1) * 3 = k * 3 + 1 + 1 + 1 := by omega
      rw [this]
      have h2 : cellsOf (p :: l) = .int .i64 p.1 :: .int .i64 p.2.1 :: .string p.2.2 :: cellsOf l := rfl
      rw [h2, List.take_succ_cons, List.take_succ_cons, List.take_succ_cons, ih]
      rfl
theorem cells_drop (l : List Pk) (k : Nat) : (cellsOf l).drop (k * 3) = cellsOf (l.drop k) := by
  induction k generalizing l with
  | zero => simp
  | succ k ih =>
    cases l with
    | nil => simp [cellsOf]
    | cons p l =>
      have : (k + 1) * 3 = k * 3 + 1 + 1 + 1 := by omega
      rw [this]
      have h2 : cellsOf (p :: l) = .int .i64 p.1 :: .int .i64 p.2.1 :: .string p.2.2 :: cellsOf l := rfl
      rw [h2, List.drop_succ_cons, List.drop_succ_cons, List.drop_succ_cons, ih]
      rfl
theorem cells_append (l m : List Pk) : cellsOf (l ++ m) = cellsOf l ++ cellsOf m := by simp [cellsOf]
theorem cells_get (l : List Pk) (k : Nat) (p : Pk) (h : l[k]? = some p) : (cellsOf l)[k * 3]? = some (.int .i64 p.1) ∧ (cellsOf l)[k * 3 + 1]? = some (.int .i64 p.2.1) ∧ (cellsOf l)[k * 3 + 2]? = some (.string p.2.2) := by
  have hd : l.drop k = p :: l.drop (k + 1) := by
    have hlt := (List.getElem?_eq_some_iff.1 h).1
    rw [List.drop_eq_getElem_cons hlt]
    congr 1
    rw [List.getElem?_eq_getElem hlt] at h
    exact Option.some.inj h
  have hc : (cellsOf l).drop (k * 3) = pc p ++ cellsOf (l.drop (k + 1)) := by rw [cells_drop, hd]; rfl
  have h0 : ∀ j, (cellsOf l)[k * 3 + j]? = (pc p ++ cellsOf (l.drop (k + 1)))[j]? := fun j => by rw [← List.getElem?_drop, hc]
  exact ⟨h0 0, h0 1, h0 2⟩

/-- a net. -/
structure Net (w : World) (base n m : Nat) (v : Value) (ps : List Pk) (M : List (Int × Int)) : Prop where
  box : Box w n 51 #[v, .map (some m)]
  map : MapAt w m M
  row : w.ownsRow base 27 3 v ps.length (cellsOf ps)
  hn : base ≤ n
  hm : base ≤ m
/-- the blocks of a net. -/
def Of (n m : Nat) (v : Value) (k : Nat) : Prop := k = n ∨ k = m ∨ v.ownBlock = some k
variable {w w' : World} {base n m : Nat} {v : Value} {ps : List Pk} {M : List (Int × Int)}
theorem Net.vn (h : Net w base n m v ps M) : v.ownBlock ≠ some n := own_box_ne h.row h.box (by decide)
theorem Net.vm (h : Net w base n m v ps M) : v.ownBlock ≠ some m := by obtain ⟨es, c, hm, _⟩ := h.map; exact own_map_ne h.row hm
theorem Net.nm (h : Net w base n m v ps M) : n ≠ m := by obtain ⟨es, c, hm, _⟩ := h.map; exact box_map_ne h.box hm
theorem Net.stays (h : Net w base n m v ps M) (hk : ∀ k, k < w.heap.size → Of n m v k → w'.heap[k]? = w.heap[k]?) : Net w' base n m v ps M :=
  ⟨(hk n h.box.lt (.inl rfl)).trans h.box, map_stays h.map (hk m (map_lt h.map) (.inr (.inl rfl))), own_stays h.row (fun k hv => hk k (own_lt h.row k hv) (.inr (.inr hv))), h.hn, h.hm⟩
theorem Net.below {B : Nat} (h : Net w base n m v ps M) (hb : Below B w w') (hB : w.heap.size ≤ B) : Net w' base n m v ps M := h.stays fun k hk _ => hb.block k (by omega)
theorem Net.alloc (h : Net w base n m v ps M) (o : Obj) : Net (w.alloc o) base n m v ps M := h.stays fun k hk _ => Below.heap_alloc w o k hk
theorem Net.drew (h : Net w base n m v ps M) : Net w.drew base n m v ps M := h.stays fun _ _ _ => rfl
theorem Net.drewN (h : Net w base n m v ps M) (j : Nat) : Net (w.drewN j) base n m v ps M := h.stays fun _ _ _ => rfl
theorem Net.touch {S : Nat → Prop} (h : Net w base n m v ps M) (ht : Touch S w w') (hd : ∀ k, S k → ¬ Of n m v k) : Net w' base n m v ps M := h.stays fun k hk ho => ht.block k hk (fun hs => hd k hs ho)
theorem Net.setCell (h : Net w base n m v ps M) {p : Addr} (hp : ¬ Of n m v p.block) (u : Value) : Net (w.setCell p u) base n m v ps M :=
  h.stays fun k _ ho => Below.heap_setCell _ _ _ _ (by rintro rfl; exact hp ho)
theorem Net.of_ge (h : Net w base n m v ps M) : ∀ k, Of n m v k → base ≤ k := by
  rintro k (rfl | rfl | hv)
  · exact h.hn
  · exact h.hm
  · exact own_ge h.row k hv
theorem Net.of_lt (h : Net w base n m v ps M) : ∀ k, Of n m v k → k < w.heap.size := by
  rintro k (rfl | rfl | hv)
  · exact h.box.lt
  · exact map_lt h.map
  · exact own_lt h.row k hv
/-- what a call on a net leaves: a net, of the old blocks or of new ones; nothing else is touched. -/
structure Goes (w w' : World) (n m : Nat) (v v' : Value) : Prop where
  touch : Touch (Of n m v) w w'
  lies : ∀ k, v'.ownBlock = some k → v.ownBlock = some k ∨ w.heap.size ≤ k
theorem Goes.of_below {v : Value} (h : Below w.heap.size w w') : Goes w w' n m v v := ⟨Touch.of_below h, fun _ hk => .inl hk⟩
theorem Goes.ofs {v v' : Value} (h : Goes w w' n m v v') : ∀ k, Of n m v' k → Of n m v k ∨ w.heap.size ≤ k := by
  rintro k (rfl | rfl | hv)
  · exact .inl (.inl rfl)
  · exact .inl (.inr (.inl rfl))
  · rcases h.lies k hv with h | h
    · exact .inl (.inr (.inr h))
    · exact .inr h
theorem Goes.trans {w'' : World} {v v' v'' : Value} (h : Goes w w' n m v v') (k : Goes w' w'' n m v' v'') : Goes w w'' n m v v'' := by
  refine ⟨⟨k.touch.os.trans h.touch.os, k.touch.tape.trans h.touch.tape, k.touch.output.trans h.touch.output, Nat.le_trans h.touch.size k.touch.size, fun i hi hn => ?_⟩, fun i hv => ?_⟩
  · refine (k.touch.block i (Nat.lt_of_lt_of_le hi h.touch.size) (fun ho => ?_)).trans (h.touch.block i hi hn)
    rcases h.ofs i ho with h1 | h1
    · exact hn h1
    · omega
  · rcases k.lies i hv with h1 | h1
    · exact h.lies i h1
    · exact .inr (Nat.le_trans h.touch.size h1)

theorem apart_is (a b : Int) (h : Net w base n m v ps M) (q : Bool) (hq : decide ((min a b, max a b) ∈ M) = q) :
    Calls Try.prog 18 #[.pointer (some ⟨n, 0, none⟩), .int .i64 a, .int .i64 b] w fun e w' => e = .returned (.bool q) ∧ Below w.heap.size w w' := by
  have hn := h.box.lt
  have HN := Lib.hid h
  have HL : ∀ w', Below w.heap.size w w' → (Instr.lookup 49 (.map (some m)) (.agg #[.int .i64 (min a b), .int .i64 (max a b)]) false).run Try.prog w' = .ok (.int .i64 (if q then 1 else 0)) w' := fun w' hb => by
    have := look_pair (min a b, max a b) m M w' (map_stays HN.out.map (hb.block m (map_lt HN.out.map)))
    by_cases hp : (min a b, max a b) ∈ M
    · simp only [hp, decide_true] at hq; subst hq; simpa [hp, pairV] using this
    · simp only [hp, decide_false] at hq; subst hq; simpa [hp, pairV] using this
  have HK := Lib.hid HL
  clear HL h hq
  go_enter Try.func18, Try.ntmps18
  go_wp2
  refine wp_region_below (B := w.heap.size) (w0 := w) (by kernel_rfl) (by kernel_rfl) (Below.refl _ _) ?_
  go_big_quiet_want; go_big_quiet_op; go_big_quiet_on
  go_big_quiet_want; apply quiet_value; (· (intro w' hw; go_simp; try rfl)); simp only [Act.put, List.setIfInBounds_toArray, List.set_cons_succ, List.set_cons_zero]; go_big_quiet_on
  go_big_quiet_want; apply quiet_value; (· (intro w' hw; go_simp; try rfl)); simp only [Act.put, List.setIfInBounds_toArray, List.set_cons_succ, List.set_cons_zero]; go_big_quiet_on
  go_big_quiet_want; apply quiet_value; (· (intro w' hw; have c1 : w'.cell? ⟨n, 1, none⟩ = some (.map (some m)) := (HN.out.box.below hw hn).cell 1; go_simp; try rfl)); simp only [Act.put, List.setIfInBounds_toArray, List.set_cons_succ, List.set_cons_zero]; go_big_quiet_on
  go_big_quiet_want; go_big_quiet_op; go_big_quiet_on
  go_big_quiet_want; go_big_quiet_op; go_big_quiet_on
  go_big_quiet_want; apply quiet_call (f := 22); (· (intro w hw; go_simp; try rfl)); (· (exact fun w hw => in_below (both_any a b w) hw (Nat.le_refl _))); simp only [Act.put, List.setIfInBounds_toArray, List.set_cons_succ, List.set_cons_zero]; go_big_quiet_on
  go_big_quiet_want; apply quiet_value; (· (intro w' hw; have lk := HK.out w' hw; go_simp; try rfl)); simp only [Act.put, List.setIfInBounds_toArray, List.set_cons_succ, List.set_cons_zero]; go_big_quiet_on
  cases q
  all_goals
    go_big_quiet_want; apply quiet_value; (· (intro w' hw; go_simp; try rfl)); simp only [Act.put, List.setIfInBounds_toArray, List.set_cons_succ, List.set_cons_zero]; go_big_quiet_on
    go_big_quiet_want; go_big_quiet_op; go_big_quiet_on
    refine wpQuiet_nil ?_
    intro w2 hb2
    go_wp2
    go_ret
    exact ⟨rfl, hb2⟩

theorem src3 (w : World) (p : Pk) : Src (w.alloc (.cells #[.int .i64 p.1, .int .i64 p.2.1, .string p.2.2] 27)) (some ⟨w.heap.size, 0, none⟩) 1 3 (pc p) := by
  refine ⟨rfl, by simp [pc, Value.oneCell'], .inr ⟨_, rfl, fun j u hj => ?_⟩⟩
  have hb := (Box.new w 27 #[.int .i64 p.1, .int .i64 p.2.1, .string p.2.2]).cell j
  rw [Addr.add_lit, Nat.zero_add, hb]
  simpa [pc] using hj

theorem send_full (p : Pk) (h : Net w base n m v ps M) (hl : 2000 ≤ ps.length) (hM : ps.length ≤ 3000) :
    Calls Try.prog 10 #[.pointer (some ⟨n, 0, none⟩), pv p] w fun e w' => e = .returned (.bool false) ∧ Below w.heap.size w w' := by
  obtain ⟨ad, c, rfl, hcap⟩ := own_shape h.row
  have c0 : w.cell? ⟨n, 0, none⟩ = some (.slice ad ps.length c) := h.box.cell 0
  have hn := h.box.lt
  have hl' : (2000 : Int) ≤ (ps.length : Int) := by omega
  unfold pv
  clear h hl hM hcap
  go_enter Try.func10, Try.ntmps10
  go_wp2
  go_ret
  exact ⟨rfl, (Below.refl _ _).alloc (Nat.le_refl _) _⟩

theorem send_apart (p : Pk) (h : Net w base n m v ps M) (hl : ps.length < 2000) (ha : (min p.1 p.2.1, max p.1 p.2.1) ∈ M) :
    Calls Try.prog 10 #[.pointer (some ⟨n, 0, none⟩), pv p] w fun e w' => e = .returned (.bool false) ∧ Below w.heap.size w w' := by
  obtain ⟨ad, c, rfl, hcap⟩ := own_shape h.row
  have c0 : w.cell? ⟨n, 0, none⟩ = some (.slice ad ps.length c) := h.box.cell 0
  have hn := h.box.lt
  have hl' : ¬ (2000 : Int) ≤ (ps.length : Int) := by omega
  have CA := Lib.hid (apart_is p.1 p.2.1 (h.alloc (.cells #[.int .i64 p.1, .int .i64 p.2.1, .string p.2.2] 27)) true (by simpa using ha))
  unfold pv
  clear h hl hcap ha
  go_enter Try.func10, Try.ntmps10
  go_wp2_with fail
  refine CA.out.mono ?_
  rintro e w1 ⟨rfl, bel1⟩
  go_wp2
  go_ret
  exact ⟨rfl, ((Below.refl _ _).alloc (Nat.le_refl _) _).trans (bel1.mono (by simp))⟩

theorem send_ok (p : Pk) (h : Net w base n m v ps M) (hb : base ≤ w.heap.size) (hl : ps.length < 2000) (ha : (min p.1 p.2.1, max p.1 p.2.1) ∉ M) :
    Calls Try.prog 10 #[.pointer (some ⟨n, 0, none⟩), pv p] w fun e w' => e = .returned (.bool true) ∧ ∃ v', Net w' base n m v' (ps ++ [p]) M ∧ Goes w w' n m v v' := by
  obtain ⟨i0, hi, hz0, hz1, hz2⟩ := info_parts row27
  have hz : i0.zero = some zeroPk := hz0
  clear hz0
  obtain ⟨ad, c, rfl, hcap⟩ := own_shape h.row
  have hn := h.box.lt
  have hHN := Lib.hid h
  have c0 : w.cell? ⟨n, 0, none⟩ = some (.slice ad ps.length c) := h.box.cell 0
  have hl' : ¬ (2000 : Int) ≤ (ps.length : Int) := by omega
  have CA := Lib.hid (apart_is p.1 p.2.1 (h.alloc (.cells #[.int .i64 p.1, .int .i64 p.2.1, .string p.2.2] 27)) false (by simpa using ha))
  unfold pv
  clear h hcap ha
  go_enter Try.func10, Try.ntmps10
  go_wp2_with fail
  refine CA.out.mono ?_
  rintro e w1 ⟨rfl, bel1⟩
  have bel := Lib.hid (((Below.refl w.heap.size w).alloc (Nat.le_refl _) (.cells #[.int .i64 p.1, .int .i64 p.2.1, .string p.2.2] 27)).trans (bel1.mono (by simp)))
  have HN1 := Lib.hid (hHN.out.below bel.out (Nat.le_refl _))
  have HP1 := Lib.hid (show Box w1 w.heap.size 27 #[.int .i64 p.1, .int .i64 p.2.1, .string p.2.2] from (Box.new w 27 _).below bel1 (by simp))
  have hsz := bel.out.size
  have hsz1 : w.heap.size < w1.heap.size := HP1.out.lt
  clear c0 bel1 CA
  go_wp2
  refine wp_region_phase (fun w' => Box w' n 51 #[.slice ad ps.length c, .map (some m)] ∧ Box w' w.heap.size 27 #[.int .i64 p.1, .int .i64 p.2.1, .string p.2.2]) [true, true, true, true, true, true, false, false, false, false, false] 10 _ _ _ (by kernel_rfl) rfl rfl (by kernel_rfl) rfl rfl (fun _ _ _ _ _ h => h) (⟨HN1.out.box.drew, HP1.out.drew⟩) ?_
  intro S HS
  simp only [taken, leftOut]
  go_big_quiet_want; go_big_quiet_op; go_big_quiet_on
  go_big_quiet_want; go_big_quiet_op; go_big_quiet_on
  go_big_quiet_want; apply quiet_value; (· (intro w' hw; go_simp; try rfl)); simp only [Act.put, List.setIfInBounds_toArray, List.set_cons_succ, List.set_cons_zero]; go_big_quiet_on
  go_big_quiet_want; apply quiet_value; (· (intro w' hw; go_simp; try rfl)); simp only [Act.put, List.setIfInBounds_toArray, List.set_cons_succ, List.set_cons_zero]; go_big_quiet_on
  go_big_quiet_want; apply quiet_value; (· (intro w' hw; have c0 := ((HS.out _).1 hw).1.cell 0; go_simp; try rfl)); simp only [Act.put, List.setIfInBounds_toArray, List.set_cons_succ, List.set_cons_zero]; go_big_quiet_on
  go_big_quiet_want; apply quiet_value; (· (intro w' hw; have c0 := ((HS.out _).1 hw).2.cell 0; have c1 := ((HS.out _).1 hw).2.cell 1; have c2 := ((HS.out _).1 hw).2.cell 2; go_simp; try rfl)); simp only [Act.put, List.setIfInBounds_toArray, List.set_cons_succ, List.set_cons_zero]; go_big_quiet_on
  refine wpQuiet_nil ?_
  refine wpTail_more ?_
  go_wp2_with fail
  refine ThenS.mk ((HS.out _).2 ⟨HN1.out.box.drew.alloc _, HP1.out.drew.alloc _⟩) ?_
  refine wpTail_more ?_
  have HN2 := Lib.hid (HN1.out.drew.alloc (.cells #[.int .i64 p.1, .int .i64 p.2.1, .string p.2.2] 27))
  have HX2 := Lib.hid (src3 w1.drew p)
  go_wp2_with (at_builtin; refine wpList_append_at rfl (.tmp 23) (.tmp 25) 22 rfl base 27 i0 zeroPk 3 32 Try.underlying22 hi hz hz1 hz2 rfl (by decide) _ _ _ rfl HN2.out.row _ _ _ _ rfl HX2.out ?c2 ?c3 ?c4 ?_)
  case c2 => unfold maxLen; omega
  case c3 => omega
  case c4 => simp; omega
  intro v3 w3 own3 g3 at3
  obtain ⟨ad3, c3, rfl, hc3⟩ := own_shape own3
  have vn : some n ≠ (Value.slice ad ps.length c).ownBlock := fun e => HN1.out.vn e.symm
  have vm : some m ≠ (Value.slice ad ps.length c).ownBlock := fun e => HN1.out.vm e.symm
  have vp : some w.heap.size ≠ (Value.slice ad ps.length c).ownBlock := fun e => by have := own_lt hHN.out.row _ e.symm; omega
  have hS3 : S w3 := (HS.out _).2 ⟨HN2.out.box.grown g3 vn, (HP1.out.drew.alloc _).grown g3 vp⟩
  have HS3 := Lib.hid hS3
  have HM3 := Lib.hid (map_stays HN2.out.map (g3.block m (map_lt HN2.out.map) vm))
  have HT3 : Hid (Touch (Of n m (Value.slice ad ps.length c)) w w3) := (Touch.of_below (bel.out.drew.alloc (by simp; omega) (.cells #[.int .i64 p.1, .int .i64 p.2.1, .string p.2.2] 27))).grown g3 (fun k hk => .inl (.inr (.inr hk)))
  have HO3 := Lib.hid own3
  have HA3 := Lib.hid at3
  clear hS3 own3 g3 at3 vn vm vp
  go_wp2_with fail
  refine ThenS.mk HS3.out ?_
  refine wpTail_more ?_
  go_wp2_with fail
  refine ThenS.mk HS3.out ?_
  refine wpTail_more ?_
  go_wp2_with fail
  refine ThenS.mk HS3.out ?_
  refine wpTail_last ?_
  have d0 : w3.cell? ⟨n, 0, none⟩ = some (.slice ad ps.length c) := ((HS.out _).1 HS3.out).1.cell 0
  have f0 := ((HS.out _).1 HS3.out).1.frozen 0
  go_wp2_with fail
  go_ret
  have hne : (Value.slice ad3 (ps.length + 1) c3).ownBlock ≠ some n := by
    have := own_box_ne HO3.out ((HS.out _).1 HS3.out).1 (by decide); exact this
  refine ⟨rfl, .slice ad3 (ps.length + 1) c3, ⟨((HS.out _).1 HS3.out).1.set 0 _, map_stays HM3.out (Below.heap_setCell _ _ _ _ (fun e => hHN.out.nm e.symm)), ?_, hHN.out.hn, hHN.out.hm⟩, ⟨HT3.out.setCell (.inl rfl) _, fun k hk => ?_⟩⟩
  · rw [cells_snoc, List.length_append]
    exact own_stays HO3.out (fun k hk => Below.heap_setCell _ _ _ _ (fun e => hne (hk.trans (congrArg some e))))
  · rcases HA3.out with h | h
    · exact .inl (h ▸ hk)
    · rw [h] at hk
      refine .inr ?_
      have : k = w1.heap.size + 1 := by simp at hk; omega
      omega
end Go.Proofs.Ytejoggbebmmlkaa
