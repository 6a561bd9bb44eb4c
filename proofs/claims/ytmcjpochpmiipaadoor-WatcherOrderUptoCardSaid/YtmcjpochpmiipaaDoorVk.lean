/- watcher: the document's Drop, Fire. Conditions: the row is the call's own. -/
import Derived.Test.YtmcjpochpmiipaaDoorVj
namespace Go.Proofs.YtmcjpochpmiipaaDoor
open Go Go.RowKit Zn
set_option linter.unusedVariables false
set_option linter.unusedSimpArgs false
variable {w w' : World} {base n : Nat} {v : Value} {L : List Wt}

theorem own_ne {b e s k b' e' s' k' : Nat} {u u' : Value} {xs xs' : List Value} (h : w.ownsRow b e s u k xs) (h' : w.ownsRow b' e' s' u' k' xs') (hne : e ≠ e') : ∀ g, u.ownBlock = some g → u'.ownBlock ≠ some g := by
  intro g hg hg'
  rcases h.2 with ⟨rfl, _⟩ | ⟨g1, c1, cur1, rfl, _, e1, _⟩
  · cases hg
  · rcases h'.2 with ⟨rfl, _⟩ | ⟨g2, c2, cur2, rfl, _, e2, _⟩
    · cases hg'
    · obtain rfl : g1 = g := by simpa [Value.ownBlock] using hg
      obtain rfl : g2 = g1 := by simpa [Value.ownBlock] using hg'
      rw [e1] at e2
      simp only [Option.some.injEq, Obj.cells.injEq] at e2
      exact hne e2.2.1
theorem take_filter {f : Wt → Bool} {L : List Wt} {k : Nat} {p : Wt} (hp : L[k]? = some p) : (L.take (k + 1)).filter f = (L.take k).filter f ++ if f p then [p] else [] := by
  rw [List.take_add_one, hp, List.filter_append]
  cases hf : f p <;> simp [hf]
set_option maxHeartbeats 1000000 in
theorem rdrop_any {wi : World} (M : Int) (ad : Option Addr) (c : Nat) (h : wi.ownsRow base 29 3 (.slice ad L.length c) L.length (cellsOf L)) (hl : L.length ≤ 1000) :
    Calls Tryd.prog 28 #[.slice ad L.length c, .int .i64 M] wi fun e w' => ∃ v', e = .returned v' ∧ w'.ownsRow wi.heap.size 29 3 v' (dropL M L).length (cellsOf (dropL M L)) ∧ Below wi.heap.size wi w' := by
  have HO := Lib.hid h
  obtain ⟨i0, hi, hz0, hz1, hz2⟩ := info_parts row29
  have HI := Lib.hid hi
  have HZZ := Lib.hid hz0
  clear h hi hz0
  go_enter Tryd.func28, Tryd.ntmps28
  go_wp2
  go_loopw [5, 6] (fun o i wr => ∃ k : Nat, k ≤ L.length ∧ i = .int .i64 k ∧ wr.ownsRow wi.heap.size 29 3 o (dropL M (L.take k)).length (cellsOf (dropL M (L.take k))) ∧ Below wi.heap.size wi wr) (fun _ i _ => L.length - (intOf i).toNat)
  case atStart => exact ⟨0, Nat.zero_le _, rfl, World.ownsRow_nil _ _ _ _, Below.refl _ _⟩
  case round =>
    obtain ⟨k, hk, rfl, hown, hbel⟩ := hrel
    have HB := Lib.hid hbel
    have HW := Lib.hid hown
    have HOr := Lib.hid (own_below HO.out hbel (Nat.le_refl _))
    obtain ⟨ado, co, rfl, _⟩ := own_shape hown
    have hol : (dropL M (L.take k)).length ≤ k := by
      have := List.length_filter_le (fun p => !dropB M p) (L.take k)
      rw [List.length_take] at this
      unfold dropL
      omega
    clear hown hbel
    by_cases hlt : k < L.length
    · obtain ⟨p, hp⟩ : ∃ p, L[k]? = some p := ⟨_, List.getElem?_eq_getElem hlt⟩
      obtain ⟨g, cap, he, hg, d0, d1, d2⟩ := own_cells HOr.out k p hp
      obtain ⟨rfl, rfl⟩ : ad = some ⟨g, 0, none⟩ ∧ c = cap := by simpa using he
      have HP := Lib.hid hp
      have HNX := Lib.hid (show dropL M (L.take (k + 1)) = dropL M (L.take k) ++ if !dropB M p then [p] else [] from take_filter hp)
      clear he hp hg
      by_cases hM : p.1 = M
      · have HD := Lib.hid (show dropL M (L.take (k + 1)) = dropL M (L.take k) by rw [HNX.out]; simp [dropB, hM])
        have hn : (p.1 != M) = false := by simpa using hM
        go_wp2
        go_roundw
        case rel => exact ⟨k + 1, by omega, by go_num, by rw [HD.out]; exact HW.out, HB.out⟩
        case measure => simp [intOf]; omega
      · have HD := Lib.hid (show dropL M (L.take (k + 1)) = dropL M (L.take k) ++ [p] by rw [HNX.out]; simp [dropB, hM])
        have hn : (p.1 != M) = true := by simpa using hM
        have HWA := Lib.hid (own_stays HW.out (w' := wr.alloc (.cells #[.int .i64 p.1, .string p.2.1, .bool p.2.2] 29)) (fun i hi => Below.heap_alloc wr _ i (own_lt HW.out i hi)))
        have HSRC := Lib.hid (wbox_src (Box.new wr 29 #[.int .i64 p.1, .string p.2.1, .bool p.2.2]))
        have HBA := Lib.hid (HB.out.alloc HB.out.size (.cells #[.int .i64 p.1, .string p.2.1, .bool p.2.2] 29))
        go_wp2_with (at_builtin; refine wpList_append_at rfl (.tmp 20) (.tmp 25) 25 rfl wi.heap.size 29 i0 _ 3 32 Tryd.underlying25 HI.out HZZ.out hz1 hz2 rfl (by decide) _ _ _ rfl HWA.out _ _ _ _ rfl HSRC.out (by unfold maxLen; omega) (by omega) HBA.out.size ?_)
        intro v6 w6 own6 g6 at6
        have HW6 := Lib.hid own6
        have HB6 := Lib.hid (HBA.out.grown g6 HBA.out.size (fun i hi => own_ge HWA.out i hi))
        clear own6 g6 at6 d0 d1 d2
        go_wp2
        go_roundw
        case rel => exact ⟨k + 1, by omega, by go_num, by rw [HD.out, cells_snoc, List.length_append]; exact HW6.out, HB6.out⟩
        case measure => simp [intOf]; omega
    · obtain rfl : k = L.length := by omega
      have HT := Lib.hid (show dropL M (L.take L.length) = dropL M L by rw [List.take_length])
      go_wp2
      go_ret
      exact ⟨_, rfl, by rw [← HT.out]; exact HW.out, HB.out⟩

def stepR (kd : Int) (pa : ByteArray) (s : List Int) (p : Wt) : List Int := if touchB kd pa p then (if p.1 ∈ s then s else s ++ [p.1]) else s
def rfired (kd : Int) (pa : ByteArray) (L : List Wt) : List Int := L.foldl (stepR kd pa) []
theorem rfired_next {kd : Int} {pa : ByteArray} {k : Nat} {p : Wt} (hp : L[k]? = some p) : rfired kd pa (L.take (k + 1)) = stepR kd pa (rfired kd pa (L.take k)) p := by
  unfold rfired
  rw [List.take_add_one, hp, List.foldl_append]; rfl
theorem rfired_len (kd : Int) (pa : ByteArray) (L : List Wt) : (rfired kd pa L).length ≤ L.length := by
  have h : ∀ (L : List Wt) (s : List Int), (L.foldl (stepR kd pa) s).length ≤ s.length + L.length := by
    intro L
    induction L with
    | nil => intro s; simp
    | cons p L ih =>
      intro s
      have h1 := ih (stepR kd pa s p)
      have h2 : (stepR kd pa s p).length ≤ s.length + 1 := by unfold stepR; split <;> (try split) <;> simp
      rw [List.foldl_cons, List.length_cons]
      omega
  have := h L []
  rw [List.length_nil, Nat.zero_add] at this
  exact this
theorem fired_same_aux (kd : Int) (pa : ByteArray) : ∀ (L : List Wt) (s : List Int), Rises L → s.Pairwise (· < ·) → (∀ x ∈ s, ∀ p ∈ L, x ≤ p.1) → L.foldl (stepR kd pa) s = L.foldl (stepT kd pa) s
  | [], s, _, _, _ => rfl
  | p :: L, s, hL, hs, hb => by
    rw [List.foldl_cons, List.foldl_cons]
    obtain ⟨hp, hL'⟩ := List.pairwise_cons.1 hL
    have hle : ∀ q ∈ L, p.1 ≤ q.1 := fun q hq => by
      rcases hp q hq with h | ⟨h, _⟩ <;> omega
    have heq : stepR kd pa s p = stepT kd pa s p := by
      unfold stepR stepT
      have hiff : (p.1 ∈ s) ↔ (s.getLast? = some p.1) := by
        constructor
        · intro hm
          have hne : s ≠ [] := by rintro rfl; cases hm
          rw [List.getLast?_eq_some_getLast hne]
          have h1 : s.getLast hne ≤ p.1 := hb _ (List.getLast_mem hne) p (List.mem_cons_self)
          have h2 : p.1 ≤ s.getLast hne := by
            rw [List.getLast_eq_getElem]
            obtain ⟨i, hi, e⟩ := List.getElem_of_mem hm
            rcases Nat.lt_or_ge i (s.length - 1) with h | h
            · have := List.pairwise_iff_getElem.1 hs i (s.length - 1) hi (by omega) h
              omega
            · have : i = s.length - 1 := by omega
              subst this
              omega
          rw [show s.getLast hne = p.1 by omega]
        · intro hm
          exact List.mem_of_getLast? hm
      by_cases h : p.1 ∈ s
      · simp [h, hiff.1 h]
      · have h2 : ¬ s.getLast? = some p.1 := fun e => h (hiff.2 e)
        simp only [h, h2, if_false]
    rw [heq]
    refine fired_same_aux kd pa L _ hL' ?_ ?_
    · unfold stepT
      split
      · split
        · exact hs
        · rename_i hn
          rw [List.pairwise_append]
          refine ⟨hs, by simp, fun x hx y hy => ?_⟩
          obtain rfl : y = p.1 := by simpa using hy
          have h1 := hb x hx p List.mem_cons_self
          rcases Int.lt_or_eq_of_le h1 with h | h
          · exact h
          · exfalso
            apply hn
            have hne : s ≠ [] := by rintro rfl; cases hx
            rw [List.getLast?_eq_some_getLast hne]
            have h2 : s.getLast hne ≤ p.1 := hb _ (List.getLast_mem hne) p (List.mem_cons_self)
            have h3 : x ≤ s.getLast hne := by
              rw [List.getLast_eq_getElem]
              obtain ⟨i, hi, e⟩ := List.getElem_of_mem hx
              rcases Nat.lt_or_ge i (s.length - 1) with h | h
              · have := List.pairwise_iff_getElem.1 hs i (s.length - 1) hi (by omega) h
                omega
              · have : i = s.length - 1 := by omega
                subst this
                omega
            rw [show s.getLast hne = p.1 by omega]
      · exact hs
    · intro x hx q hq
      unfold stepT at hx
      have hold : ∀ x ∈ s, x ≤ q.1 := fun x hx => hb x hx q (List.mem_cons_of_mem _ hq)
      split at hx
      · split at hx
        · exact hold x hx
        · rcases List.mem_append.1 hx with h | h
          · exact hold x h
          · obtain rfl : x = p.1 := by simpa using h
            exact hle q hq
      · exact hold x hx
theorem fired_same (kd : Int) (pa : ByteArray) (L : List Wt) (h : Rises L) : rfired kd pa L = firedS kd pa L := fired_same_aux kd pa L [] h List.Pairwise.nil (fun x hx => by cases hx)
abbrev tev (kd : Int) (pa : ByteArray) (s : List Int) : List Ev := s.map fun x => (x, kd, pa)
set_option maxRecDepth 4000 in
set_option maxHeartbeats 2000000 in
theorem rfire_any {wi : World} (e : Ev) (ad : Option Addr) (c : Nat) (h : wi.ownsRow base 29 3 (.slice ad L.length c) L.length (cellsOf L)) (hl : L.length ≤ 1000) :
    Calls Tryd.prog 27 #[.slice ad L.length c, ev e] wi fun r w' => ∃ v' vt, r = .returned (.tuple #[v', vt]) ∧ w'.ownsRow wi.heap.size 29 3 v' (fireL e.2.1 e.2.2 L).length (cellsOf (fireL e.2.1 e.2.2 L)) ∧
      w'.ownsRow wi.heap.size 36 3 vt (tev e.2.1 e.2.2 (rfired e.2.1 e.2.2 L)).length (eCells (tev e.2.1 e.2.2 (rfired e.2.1 e.2.2 L))) ∧ Below wi.heap.size wi w' := by
  obtain ⟨c0, kd, pa⟩ := e
  have HX0 := Lib.hid (Box.new wi 36 #[.int .i64 c0, .int .i64 kd, .string pa])
  have B0 := Lib.hid ((Below.refl wi.heap.size wi).alloc (Nat.le_refl _) (.cells #[.int .i64 c0, .int .i64 kd, .string pa] 36))
  have HO0 := Lib.hid (own_below h ((Below.refl wi.heap.size wi).alloc (Nat.le_refl _) (.cells #[.int .i64 c0, .int .i64 kd, .string pa] 36)) (Nat.le_refl _))
  obtain ⟨i0, hi, hz0, hz1, hz2⟩ := info_parts row29
  obtain ⟨j0, hj, hy0, hy1, hy2⟩ := info_parts row36
  have HI := Lib.hid hi
  have HZZ := Lib.hid hz0
  have HJ := Lib.hid hj
  have HYY := Lib.hid hy0
  have hsz : wi.heap.size < (wi.alloc (.cells #[.int .i64 c0, .int .i64 kd, .string pa] 36)).heap.size := by simp
  unfold ev
  simp only
  clear h hi hz0 hj hy0
  go_enter Tryd.func27, Tryd.ntmps27
  go_wp2
  generalize wi.alloc (.cells #[.int .i64 c0, .int .i64 kd, .string pa] 36) = w0 at HX0 B0 HO0 hsz ⊢
  go_loopw [6, 7, 8] (fun o t i wr => ∃ k : Nat, k ≤ L.length ∧ i = .int .i64 k ∧ wr.ownsRow w0.heap.size 29 3 o (fireL kd pa (L.take k)).length (cellsOf (fireL kd pa (L.take k))) ∧ wr.ownsRow w0.heap.size 36 3 t (tev kd pa (rfired kd pa (L.take k))).length (eCells (tev kd pa (rfired kd pa (L.take k)))) ∧ Below w0.heap.size w0 wr) (fun _ _ i _ => L.length - (intOf i).toNat)
  case atStart => exact ⟨0, Nat.zero_le _, rfl, World.ownsRow_nil _ _ _ _, World.ownsRow_nil _ _ _ _, Below.refl _ _⟩
  case round =>
    obtain ⟨k, hk, rfl, hown, hot, hbel⟩ := hrel
    have HB := Lib.hid hbel
    have HW := Lib.hid hown
    have HOr := Lib.hid (own_below HO0.out hbel (Nat.le_refl _))
    have HXr := Lib.hid (HX0.out.below hbel hsz)
    obtain ⟨ado, co, rfl, _⟩ := own_shape hown
    obtain ⟨s, hs⟩ : ∃ s, s = rfired kd pa (L.take k) := ⟨_, rfl⟩
    rw [← hs] at hot
    have hsl : s.length ≤ k := by rw [hs]; have := rfired_len kd pa (L.take k); rw [List.length_take] at this; omega
    have HSE := Lib.hid hs
    have hts : (tev kd pa s).length = s.length := by simp
    rw [hts] at hot
    have HT := Lib.hid hot
    obtain ⟨adt, ct, rfl, _⟩ := own_shape hot
    have hol : (fireL kd pa (L.take k)).length ≤ k := by
      have := List.length_filter_le (fun p => !touchB kd pa p) (L.take k)
      rw [List.length_take] at this
      unfold fireL
      omega
    clear hown hbel hot hs
    by_cases hlt : k < L.length
    · obtain ⟨p, hp⟩ : ∃ p, L[k]? = some p := ⟨_, List.getElem?_eq_getElem hlt⟩
      obtain ⟨g, cap, he, hg, _⟩ := own_cells HOr.out k p hp
      obtain ⟨rfl, rfl⟩ : ad = some ⟨g, 0, none⟩ ∧ c = cap := by simpa using he
      have HP := Lib.hid hp
      have HNX := Lib.hid (show fireL kd pa (L.take (k + 1)) = fireL kd pa (L.take k) ++ if !touchB kd pa p then [p] else [] from take_filter hp)
      have HNR := Lib.hid (rfired_next (kd := kd) (pa := pa) hp)
      obtain ⟨q, hq⟩ : ∃ q, q = touchB kd pa p := ⟨_, rfl⟩
      have HQ := Lib.hid hq
      clear he hp hg hq
      go_wp2
      refine wp_region_below (w0 := wr) (B := wr.heap.size) (by kernel_rfl) (by kernel_rfl) (Below.refl _ _) ?_
      go_big_quiet_want; apply quiet_value; (· (intro w hw; have hx := HXr.out.below hw HXr.out.lt; have x0 : w.cell? ⟨wi.heap.size, 0, none⟩ = some (.int .i64 c0) := hx.cell 0; have x1 : w.cell? ⟨wi.heap.size, 1, none⟩ = some (.int .i64 kd) := hx.cell 1; have x2 : w.cell? ⟨wi.heap.size, 2, none⟩ = some (.string pa) := hx.cell 2; go_simp; try rfl)); simp only [Act.put, List.setIfInBounds_toArray, List.set_cons_succ, List.set_cons_zero]; go_big_quiet_on
      go_big_quiet_want; go_big_quiet_op; go_big_quiet_on
      go_big_quiet_want; go_big_quiet_op; go_big_quiet_on
      go_big_quiet_want; apply quiet_value; (· (intro w hw; go_simp; try rfl)); simp only [Act.put, List.setIfInBounds_toArray, List.set_cons_succ, List.set_cons_zero]; go_big_quiet_on
      go_big_quiet_want; apply quiet_value; (· (intro w hw; obtain ⟨c0, c1, c2⟩ := own_at (own_below HOr.out hw (Nat.le_refl _)) k p HP.out; go_simp; try rfl)); simp only [Act.put, List.setIfInBounds_toArray, List.set_cons_succ, List.set_cons_zero]; go_big_quiet_on
      go_big_quiet_want; apply quiet_call (f := 42) (v := .bool q); (· (intro w hw; go_simp; try rfl)); (· (intro w hw; rw [HQ.out]; exact in_below (rtouches_any (c0, kd, pa) p w) hw (Nat.le_refl _))); simp only [Act.put, List.setIfInBounds_toArray, List.set_cons_succ, List.set_cons_zero]; go_big_quiet_on
      go_big_quiet_want; apply quiet_value; (· (intro w hw; go_simp; try rfl)); simp only [Act.put, List.setIfInBounds_toArray, List.set_cons_succ, List.set_cons_zero]; go_big_quiet_on
      refine wpQuiet_nil ?_
      intro w3 b3
      have HB3 := Lib.hid (HB.out.trans (b3.mono HB.out.size))
      have HO3 := Lib.hid (own_below HOr.out b3 (Nat.le_refl _))
      have HX3 := Lib.hid (HXr.out.below b3 HXr.out.lt)
      have HW3 := Lib.hid (own_below HW.out b3 (Nat.le_refl _))
      have HT3 := Lib.hid (own_below HT.out b3 (Nat.le_refl _))
      clear b3
      cases q
      · have HD := Lib.hid (show fireL kd pa (L.take (k + 1)) = fireL kd pa (L.take k) ++ [p] by rw [HNX.out, ← HQ.out]; rfl)
        have HR := Lib.hid (show rfired kd pa (L.take (k + 1)) = s by rw [HNR.out, stepR, ← HQ.out, HSE.out]; rfl)
        obtain ⟨d0, d1, d2⟩ := own_at HO3.out k p HP.out
        have HWA := Lib.hid (own_stays HW3.out (w' := w3.alloc (.cells #[.int .i64 p.1, .string p.2.1, .bool p.2.2] 29)) (fun i hi => Below.heap_alloc w3 _ i (own_lt HW3.out i hi)))
        have HTA := Lib.hid (own_stays HT3.out (w' := w3.alloc (.cells #[.int .i64 p.1, .string p.2.1, .bool p.2.2] 29)) (fun i hi => Below.heap_alloc w3 _ i (own_lt HT3.out i hi)))
        have HSRC := Lib.hid (wbox_src (Box.new w3 29 #[.int .i64 p.1, .string p.2.1, .bool p.2.2]))
        have HBA := Lib.hid (HB3.out.alloc HB3.out.size (.cells #[.int .i64 p.1, .string p.2.1, .bool p.2.2] 29))
        go_wp2_with (at_builtin; refine wpList_append_at rfl (.tmp 24) (.tmp 29) 25 rfl w0.heap.size 29 i0 _ 3 32 Tryd.underlying25 HI.out HZZ.out hz1 hz2 rfl (by decide) _ _ _ rfl HWA.out _ _ _ _ rfl HSRC.out (by unfold maxLen; omega) (by omega) HBA.out.size ?_)
        intro v6 w6 own6 g6 at6
        have HW6 := Lib.hid own6
        have HB6 := Lib.hid (HBA.out.grown g6 HBA.out.size (fun i hi => own_ge HWA.out i hi))
        have HT6 := Lib.hid (own_stays HTA.out (w' := w6) (fun i hi => g6.block i (own_lt HTA.out i hi) (fun e => own_ne HTA.out HWA.out (by decide) i hi e.symm)))
        clear own6 g6 at6 d0 d1 d2
        go_wp2
        go_roundw
        case rel => exact ⟨k + 1, by omega, by go_num, by rw [HD.out, cells_snoc, List.length_append]; exact HW6.out, by rw [HR.out, hts]; exact HT6.out, HB6.out⟩
        case measure => simp [intOf]; omega
      · have HD := Lib.hid (show fireL kd pa (L.take (k + 1)) = fireL kd pa (L.take k) by rw [HNX.out, ← HQ.out]; simp)
        have HR := Lib.hid (show rfired kd pa (L.take (k + 1)) = if p.1 ∈ s then s else s ++ [p.1] by rw [HNR.out, stepR, ← HQ.out, HSE.out]; rfl)
        simp only [Bool.not_true]
        go_wp2
        go_loopw [9, 10] (fun kn j w5 => ∃ m : Nat, m ≤ s.length ∧ j = .int .i64 m ∧ kn = .bool (decide (p.1 ∈ s.take m)) ∧ Below w3.heap.size w3 w5) (fun _ j _ => s.length - (intOf j).toNat)
        case atStart => exact ⟨0, Nat.zero_le _, rfl, by simp, Below.refl _ _⟩
        case round =>
          rename World => w5
          obtain ⟨m, hm, rfl, rfl, hb5⟩ := hrel
          have HB5 := Lib.hid (HB3.out.trans (hb5.mono HB3.out.size))
          have HO5 := Lib.hid (own_below HO3.out hb5 (Nat.le_refl _))
          have HX5 := Lib.hid (HX3.out.below hb5 HX3.out.lt)
          have HW5 := Lib.hid (own_below HW3.out hb5 (Nat.le_refl _))
          have HT5 := Lib.hid (own_below HT3.out hb5 (Nat.le_refl _))
          have HBB := Lib.hid hb5
          clear hb5
          by_cases hml : m < s.length
          · obtain ⟨y, hy⟩ : ∃ y, s[m]? = some y := ⟨_, List.getElem?_eq_getElem hml⟩
            have HYE := Lib.hid (show (tev kd pa s)[m]? = some (y, kd, pa) by rw [List.getElem?_map, hy]; rfl)
            obtain ⟨gt, capt, het, _, _⟩ := eown_cells (l := tev kd pa s) (by rw [hts]; exact HT5.out) m _ HYE.out
            rw [hts] at het
            obtain ⟨rfl, rfl⟩ : adt = some ⟨gt, 0, none⟩ ∧ ct = capt := by simpa using het
            have HTK := Lib.hid (show s.take (m + 1) = s.take m ++ [y] by rw [List.take_add_one, hy]; rfl)
            clear het hy
            by_cases hyp : y = p.1
            · have hyq : (y == p.1) = true := by simpa using hyp
              have HMM := Lib.hid (show decide (p.1 ∈ s.take (m + 1)) = true by rw [HTK.out, hyp]; simp)
              go_wp2
              refine wp_region_below (w0 := w5) (B := w5.heap.size) (by kernel_rfl) (by kernel_rfl) (Below.refl _ _) ?_
              go_big_quiet_want; go_big_quiet_op; go_big_quiet_on
              go_big_quiet_want; go_big_quiet_op; go_big_quiet_on
              go_big_quiet_want; apply quiet_value; (· (intro w hw; go_simp; try rfl)); simp only [Act.put, List.setIfInBounds_toArray, List.set_cons_succ, List.set_cons_zero]; go_big_quiet_on
              go_big_quiet_want; apply quiet_value; (· (intro w hw; go_simp; try rfl)); simp only [Act.put, List.setIfInBounds_toArray, List.set_cons_succ, List.set_cons_zero]; go_big_quiet_on
              go_big_quiet_want; apply quiet_value; (· (intro w hw; obtain ⟨d0, d1, d2⟩ := eown_at (l := tev kd pa s) (own_below (by rw [hts]; exact HT5.out) hw (Nat.le_refl _)) m _ HYE.out; go_simp; try rfl)); simp only [Act.put, List.setIfInBounds_toArray, List.set_cons_succ, List.set_cons_zero]; go_big_quiet_on
              go_big_quiet_want; go_big_quiet_op; go_big_quiet_on
              go_big_quiet_want; go_big_quiet_op; go_big_quiet_on
              go_big_quiet_want; apply quiet_value; (· (intro w hw; go_simp; try rfl)); simp only [Act.put, List.setIfInBounds_toArray, List.set_cons_succ, List.set_cons_zero]; go_big_quiet_on
              go_big_quiet_want; apply quiet_value; (· (intro w hw; go_simp; try rfl)); simp only [Act.put, List.setIfInBounds_toArray, List.set_cons_succ, List.set_cons_zero]; go_big_quiet_on
              go_big_quiet_want; apply quiet_value; (· (intro w hw; obtain ⟨z0, z1, c2⟩ := own_at (own_below HO5.out hw (Nat.le_refl _)) k p HP.out; go_simp; try rfl)); simp only [Act.put, List.setIfInBounds_toArray, List.set_cons_succ, List.set_cons_zero]; go_big_quiet_on
              go_big_quiet_want; apply quiet_value (v := .bool true); (· (intro w hw; go_simp; try rfl)); simp only [Act.put, List.setIfInBounds_toArray, List.set_cons_succ, List.set_cons_zero]; go_big_quiet_on
              refine wpQuiet_nil ?_
              intro w6 b6
              have HB6 := Lib.hid (HBB.out.trans (b6.mono HBB.out.size))
              clear b6
              go_wp2
              go_roundw
              case rel => exact ⟨m + 1, by omega, by go_num, by rw [HMM.out], HB6.out⟩
              case measure => simp [intOf]; omega
            · have hyq : (y == p.1) = false := by simpa using hyp
              have HMM := Lib.hid (show decide (p.1 ∈ s.take (m + 1)) = decide (p.1 ∈ s.take m) by have hn : ¬ p.1 = y := fun e => hyp e.symm; rw [HTK.out]; simp [hn])
              go_wp2
              refine wp_region_below (w0 := w5) (B := w5.heap.size) (by kernel_rfl) (by kernel_rfl) (Below.refl _ _) ?_
              go_big_quiet_want; go_big_quiet_op; go_big_quiet_on
              go_big_quiet_want; go_big_quiet_op; go_big_quiet_on
              go_big_quiet_want; apply quiet_value; (· (intro w hw; go_simp; try rfl)); simp only [Act.put, List.setIfInBounds_toArray, List.set_cons_succ, List.set_cons_zero]; go_big_quiet_on
              go_big_quiet_want; apply quiet_value; (· (intro w hw; go_simp; try rfl)); simp only [Act.put, List.setIfInBounds_toArray, List.set_cons_succ, List.set_cons_zero]; go_big_quiet_on
              go_big_quiet_want; apply quiet_value; (· (intro w hw; obtain ⟨d0, d1, d2⟩ := eown_at (l := tev kd pa s) (own_below (by rw [hts]; exact HT5.out) hw (Nat.le_refl _)) m _ HYE.out; go_simp; try rfl)); simp only [Act.put, List.setIfInBounds_toArray, List.set_cons_succ, List.set_cons_zero]; go_big_quiet_on
              go_big_quiet_want; go_big_quiet_op; go_big_quiet_on
              go_big_quiet_want; go_big_quiet_op; go_big_quiet_on
              go_big_quiet_want; apply quiet_value; (· (intro w hw; go_simp; try rfl)); simp only [Act.put, List.setIfInBounds_toArray, List.set_cons_succ, List.set_cons_zero]; go_big_quiet_on
              go_big_quiet_want; apply quiet_value; (· (intro w hw; go_simp; try rfl)); simp only [Act.put, List.setIfInBounds_toArray, List.set_cons_succ, List.set_cons_zero]; go_big_quiet_on
              go_big_quiet_want; apply quiet_value; (· (intro w hw; obtain ⟨z0, z1, c2⟩ := own_at (own_below HO5.out hw (Nat.le_refl _)) k p HP.out; go_simp; try rfl)); simp only [Act.put, List.setIfInBounds_toArray, List.set_cons_succ, List.set_cons_zero]; go_big_quiet_on
              go_big_quiet_want; apply quiet_value (v := .bool false); (· (intro w hw; go_simp; try rfl)); simp only [Act.put, List.setIfInBounds_toArray, List.set_cons_succ, List.set_cons_zero]; go_big_quiet_on
              refine wpQuiet_nil ?_
              intro w6 b6
              have HB6 := Lib.hid (HBB.out.trans (b6.mono HBB.out.size))
              clear b6
              go_wp2
              go_roundw
              case rel => exact ⟨m + 1, by omega, by go_num, by rw [HMM.out], HB6.out⟩
              case measure => simp [intOf]; omega
          · obtain rfl : m = s.length := by omega
            have HTK := Lib.hid (List.take_length (l := s))
            rw [HTK.out]
            by_cases hmem : p.1 ∈ s
            · have hdm : decide (p.1 ∈ s) = true := decide_eq_true hmem
              rw [hdm]
              go_wp2
              go_roundw
              case rel => exact ⟨k + 1, by omega, by go_num, by rw [HD.out]; exact HW5.out, by rw [HR.out, if_pos hmem, hts]; exact HT5.out, HB5.out⟩
              case measure => simp [intOf]; omega
            · have hdm : decide (p.1 ∈ s) = false := decide_eq_false hmem
              rw [hdm]
              go_wp2
              refine wp_region_phase (fun w' => w'.ownsRow base 29 3 (.slice (some ⟨g, 0, none⟩) L.length c) L.length (cellsOf L) ∧ Box w' wi.heap.size 36 #[.int .i64 c0, .int .i64 kd, .string pa]) [true, true, true, true, true, true, true, true, true, true, true, false, false, false] 13 _ _ _ (by kernel_rfl) rfl rfl (by kernel_rfl) rfl rfl (fun _ _ _ _ _ h => h) (⟨own_stays HO5.out (fun _ _ => rfl), HX5.out.drew⟩) ?_
              intro S HS
              simp only [taken, leftOut]
              go_big_quiet_want; go_big_quiet_op; go_big_quiet_on
              go_big_quiet_want; go_big_quiet_op; go_big_quiet_on
              go_big_quiet_want; go_big_quiet_op; go_big_quiet_on
              go_big_quiet_want; apply quiet_value; (· (intro w' hw; go_simp; try rfl)); simp only [Act.put, List.setIfInBounds_toArray, List.set_cons_succ, List.set_cons_zero]; go_big_quiet_on
              go_big_quiet_want; apply quiet_value; (· (intro w' hw; go_simp; try rfl)); simp only [Act.put, List.setIfInBounds_toArray, List.set_cons_succ, List.set_cons_zero]; go_big_quiet_on
              go_big_quiet_want; apply quiet_value; (· (intro w' hw; obtain ⟨z0, z1, z2⟩ := own_at ((HS.out _).1 hw).1 k p HP.out; go_simp; try rfl)); simp only [Act.put, List.setIfInBounds_toArray, List.set_cons_succ, List.set_cons_zero]; go_big_quiet_on
              go_big_quiet_want; apply quiet_value; (· (intro w' hw; go_simp; try rfl)); simp only [Act.put, List.setIfInBounds_toArray, List.set_cons_succ, List.set_cons_zero]; go_big_quiet_on
              go_big_quiet_want; apply quiet_value; (· (intro w' hw; have hx := ((HS.out _).1 hw).2; have x0 : w'.cell? ⟨wi.heap.size, 0, none⟩ = some (.int .i64 c0) := hx.cell 0; have x1 : w'.cell? ⟨wi.heap.size, 1, none⟩ = some (.int .i64 kd) := hx.cell 1; have x2 : w'.cell? ⟨wi.heap.size, 2, none⟩ = some (.string pa) := hx.cell 2; go_simp; try rfl)); simp only [Act.put, List.setIfInBounds_toArray, List.set_cons_succ, List.set_cons_zero]; go_big_quiet_on
              go_big_quiet_want; apply quiet_value; (· (intro w' hw; go_simp; try rfl)); simp only [Act.put, List.setIfInBounds_toArray, List.set_cons_succ, List.set_cons_zero]; go_big_quiet_on
              go_big_quiet_want; apply quiet_value; (· (intro w' hw; have hx := ((HS.out _).1 hw).2; have x0 : w'.cell? ⟨wi.heap.size, 0, none⟩ = some (.int .i64 c0) := hx.cell 0; have x1 : w'.cell? ⟨wi.heap.size, 1, none⟩ = some (.int .i64 kd) := hx.cell 1; have x2 : w'.cell? ⟨wi.heap.size, 2, none⟩ = some (.string pa) := hx.cell 2; go_simp; try rfl)); simp only [Act.put, List.setIfInBounds_toArray, List.set_cons_succ, List.set_cons_zero]; go_big_quiet_on
              go_big_quiet_want; apply quiet_value; (· (intro w' hw; go_simp; try rfl)); simp only [Act.put, List.setIfInBounds_toArray, List.set_cons_succ, List.set_cons_zero]; go_big_quiet_on
              refine wpQuiet_nil ?_
              refine wpTail_more ?_
              have HWA := Lib.hid (own_stays HW5.out (w' := w5.drew.alloc (.cells #[.int .i64 p.1, .int .i64 kd, .string pa] 36)) (fun i hi => Below.heap_alloc w5.drew _ i (own_lt HW5.out i hi)))
              have HTA := Lib.hid (own_stays HT5.out (w' := w5.drew.alloc (.cells #[.int .i64 p.1, .int .i64 kd, .string pa] 36)) (fun i hi => Below.heap_alloc w5.drew _ i (own_lt HT5.out i hi)))
              have HOA := Lib.hid (own_stays HO5.out (w' := w5.drew.alloc (.cells #[.int .i64 p.1, .int .i64 kd, .string pa] 36)) (fun i hi => Below.heap_alloc w5.drew _ i (own_lt HO5.out i hi)))
              have HXA := Lib.hid (HX5.out.drew.alloc (.cells #[.int .i64 p.1, .int .i64 kd, .string pa] 36))
              have HSRC := Lib.hid (ebox_src (c := 1) (x := (p.1, kd, pa)) (Box.new w5.drew 36 #[.int .i64 p.1, .int .i64 kd, .string pa]))
              have HBA := Lib.hid (HB5.out.drew.alloc HB5.out.size (.cells #[.int .i64 p.1, .int .i64 kd, .string pa] 36))
              go_wp2_with fail
              refine ThenS.mk ((HS.out _).2 ⟨HOA.out, HXA.out⟩) ?_
              refine wpTail_more ?_
              go_wp2_with (at_builtin; refine wpList_append_at rfl (.tmp 50) (.tmp 61) 40 rfl w0.heap.size 36 j0 _ 3 32 Tryd.underlying40 HJ.out HYY.out hy1 hy2 rfl (by decide) _ _ _ rfl HTA.out _ _ _ _ rfl HSRC.out (by unfold maxLen; omega) (by omega) HBA.out.size ?_)
              intro v6 w6 own6 g6 at6
              have HT6 := Lib.hid own6
              have HB6 := Lib.hid (HBA.out.grown g6 HBA.out.size (fun i hi => own_ge HTA.out i hi))
              have HW6 := Lib.hid (own_stays HWA.out (w' := w6) (fun i hi => g6.block i (own_lt HWA.out i hi) (fun e => own_ne HWA.out HTA.out (by decide) i hi e.symm)))
              have HO6 := Lib.hid (own_stays HO0.out (w' := w6) (fun i hi => HB6.out.block i (own_lt HO0.out i hi)))
              have HX6 := Lib.hid (HX0.out.below HB6.out hsz)
              obtain ⟨ad6, c6, rfl, _⟩ := own_shape own6
              clear own6 g6 at6
              go_wp2_with fail
              refine ThenS.mk ((HS.out _).2 ⟨HO6.out, HX6.out⟩) ?_
              refine wpTail_last ?_
              go_wp2
              go_roundw
              case rel => exact ⟨k + 1, by omega, by go_num, by rw [HD.out]; exact HW6.out, by
                rw [HR.out, if_neg hmem]
                have h1 : (tev kd pa (s ++ [p.1])).length = s.length + 1 := by simp
                have h2 : eCells (tev kd pa (s ++ [p.1])) = eCells (tev kd pa s) ++ te (p.1, kd, pa) := by rw [tev, List.map_append]; exact ecells_snoc _ _
                rw [h1, h2]
                exact HT6.out, HB6.out⟩
              case measure => simp [intOf]; omega
    · obtain rfl : k = L.length := by omega
      have HTK := Lib.hid (List.take_length (l := L))
      go_wp2
      have HW9 : wr.ownsRow w0.heap.size 29 3 (.slice ado (fireL kd pa (L.take L.length)).length co) (fireL kd pa L).length (cellsOf (fireL kd pa L)) := by have h9 := HW.out; rw [HTK.out] at h9 ⊢; exact h9
      exact ret_tt (x := .slice ado (fireL kd pa (L.take L.length)).length co) (y := .slice adt s.length ct) Tryd.results27 rfl rfl rfl ⟨_, _, rfl, own_lower HW9 B0.out.size, by rw [HTK.out] at HSE; rw [← HSE.out, hts]; exact own_lower HT.out B0.out.size, B0.out.trans (HB.out.mono B0.out.size)⟩
end Go.Proofs.YtmcjpochpmiipaaDoor
