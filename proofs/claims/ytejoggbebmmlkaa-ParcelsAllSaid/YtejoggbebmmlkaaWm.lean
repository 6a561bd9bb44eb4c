/- parcels: slices.IndexFunc and slices.DeleteFunc over a row of packets, by the pair of their ends. Conditions: the row is the call's own. -/
import Derived.Test.YtejoggbebmmlkaaWl
namespace Go.Proofs.Ytejoggbebmmlkaa
open Go.RowKit
set_option linter.unusedVariables false
set_option linter.unusedSimpArgs false
variable {w w' : World} {base n m : Nat} {v : Value} {ps : List Pk} {M : List (Int × Int)}

abbrev pickF (ba bb : Nat) : Value := .func (.func 24) #[] #[.pointer (some ⟨ba, 0, none⟩), .pointer (some ⟨bb, 0, none⟩)]

/-- where the first one is, or -1. -/
def idxI (f : Pk → Bool) (l : List Pk) : Int := if l.findIdx f < l.length then (l.findIdx f : Int) else -1

theorem own_stays_below {e size k : Nat} {vv : Value} {xs : List Value} {B : Nat} (h : w.ownsRow base e size vv k xs) (hb : Below B w w') (hB : w.heap.size ≤ B) : w'.ownsRow base e size vv k xs :=
  own_stays h (fun j hj => hb.block j (Nat.lt_of_lt_of_le (own_lt h j hj) hB))

theorem index_any (ba bb : Nat) (a b : Int) (ad : Option Addr) (c : Nat) (h : w.ownsRow base 27 3 (.slice ad ps.length c) ps.length (cellsOf ps)) (hv : Vars w ba bb a b) (hM : ps.length ≤ 3000) :
    Calls Try.prog 33 #[.slice ad ps.length c, pickF ba bb] w fun e w' => e = .returned (.int .i64 (idxI (goesB a b) ps)) ∧ Below w.heap.size w w' := by
  have HO := Lib.hid h
  have HV := Lib.hid hv
  clear h hv
  go_enter Try.func33, Try.ntmps33
  go_wp2
  go_loopw [8] (fun i wr => ∃ k : Nat, k ≤ ps.length ∧ i = .int .i64 k ∧ k ≤ ps.findIdx (goesB a b) ∧ Below w.heap.size w wr) (fun i _ => ps.length - (intOf i).toNat)
  case atStart => exact ⟨0, Nat.zero_le _, rfl, Nat.zero_le _, Below.refl _ _⟩
  case round =>
    obtain ⟨k, hk, rfl, hf, hbel⟩ := hrel
    by_cases hlt : k < ps.length
    · have hp : ps[k]? = some ps[k] := List.getElem?_eq_getElem hlt
      obtain ⟨g, cap, he, hg, d0, d1, d2⟩ := own_cells (own_stays_below HO.out hbel (Nat.le_refl _)) k _ hp
      obtain ⟨rfl, rfl⟩ : ad = some ⟨g, 0, none⟩ ∧ c = cap := by simpa using he
      obtain ⟨p, hpe⟩ : ∃ p, p = ps[k] := ⟨_, rfl⟩
      rw [← hpe] at d0 d1 d2 hp
      obtain ⟨q, hq⟩ : ∃ q, goesB a b p = q := ⟨_, rfl⟩
      have C1 := Lib.hid (pick_any p ba bb a b (HV.out.below hbel (Nat.le_refl _)) q hq)
      have HQ := Lib.hid hq
      have HP := Lib.hid hp
      have HPE := Lib.hid hpe
      have HF := Lib.hid hf
      have HB := Lib.hid hbel
      unfold pv at C1
      clear he hq hp hpe hf hbel
      go_wp2_with fail
      refine C1.out.mono ?_
      rintro e w2 ⟨rfl, b2⟩
      have HB2 := Lib.hid (HB.out.trans (b2.mono HB.out.size))
      clear C1 b2 d0 d1 d2
      cases q
      · go_wp2
        go_roundw
        case rel =>
          refine ⟨k + 1, by omega, by go_num, ?_, HB2.out⟩
          have h1 := HF.out
          rcases Nat.lt_or_ge k (ps.findIdx (goesB a b)) with h2 | h2
          · omega
          · exfalso
            have h3 : ps.findIdx (goesB a b) = k := by omega
            have := List.findIdx_getElem (w := (by rw [h3]; exact hlt : ps.findIdx (goesB a b) < ps.length))
            simp only [h3] at this
            rw [← HPE.out, HQ.out] at this
            cases this
        case measure => simp [intOf]; omega
      · have hI : idxI (goesB a b) ps = (k : Int) := by
          have h1 : ps.findIdx (goesB a b) ≤ k := by
            rcases Nat.lt_or_ge k (ps.findIdx (goesB a b)) with h2 | h2
            · have := List.not_of_lt_findIdx h2
              rw [← HPE.out, HQ.out] at this
              simp at this
            · exact h2
          have h2 := HF.out
          rw [idxI, if_pos (by omega)]
          omega
        have HI := Lib.hid hI
        clear hI
        go_wp2
        go_ret
        exact ⟨by rw [HI.out]; rfl, HB2.out⟩
    · have hI : idxI (goesB a b) ps = -1 := by rw [idxI, if_neg (by omega)]
      have HI := Lib.hid hI
      clear hI hf
      have HB := Lib.hid hbel
      clear hbel
      go_wp2
      go_ret
      exact ⟨by rw [HI.out]; rfl, HB.out⟩

theorem World.grownBy.of_below {r : Option Nat} (h : Below w.heap.size w w') : w.grownBy w' r := ⟨h.os, h.tape, h.output, h.size, fun k hk _ => h.block k hk⟩
theorem grownBy_trans {r : Option Nat} {a b c : World} (h : a.grownBy b r) (k : b.grownBy c r) : a.grownBy c r :=
  ⟨k.os.trans h.os, k.tape.trans h.tape, k.output.trans h.output, Nat.le_trans h.size k.size, fun i hi hn => (k.block i (Nat.lt_of_lt_of_le hi h.size) hn).trans (h.block i hi hn)⟩
theorem grownBy_set {g : Nat} (h : w.grownBy w' (some g)) (t : Nat) (u : Value) : w.grownBy (w'.setCell ⟨g, t, none⟩ u) (some g) :=
  ⟨h.os, h.tape, h.output, by simpa [World.setCell] using h.size, fun i hi hn => (Below.heap_setCell _ _ _ _ (fun e => hn (by rw [e]))).trans (h.block i hi hn)⟩
/-- a row in the midst of DeleteFunc: a kept ones at its head, those from j on as they were. -/
def Mid (w : World) (g cap : Nat) (ps kept : List Pk) (j : Nat) : Prop :=
  ∃ cur : Array Value, Box w g 27 cur ∧ cur.size = cap * 3 ∧ (∀ t, t < kept.length * 3 → cur[t]? = (cellsOf kept)[t]?) ∧ ∀ t, j * 3 ≤ t → t < ps.length * 3 → cur[t]? = (cellsOf ps)[t]?
theorem Mid.start {g cap : Nat} (h : w.ownsRow base 27 3 (.slice (some ⟨g, 0, none⟩) ps.length cap) ps.length (cellsOf ps)) (k : Nat) (hk : k ≤ ps.length) : Mid w g cap ps (ps.take k) (k + 1) := by
  rcases h.2 with ⟨h0, _⟩ | ⟨g', cap', cur, he, hb, hg, hc, hm, hcs, ht⟩
  · cases h0
  · obtain ⟨rfl, rfl⟩ : g = g' ∧ cap = cap' := by simpa using he
    have hall : ∀ t, t < ps.length * 3 → cur[t]? = (cellsOf ps)[t]? := fun t htl => by
      rw [← ht, List.getElem?_take_of_lt htl, Array.getElem?_toList]
    refine ⟨cur, hg, hcs, fun t htl => ?_, fun t _ htl => hall t htl⟩
    rw [List.length_take, Nat.min_eq_left hk] at htl
    rw [hall t (by omega), ← cells_take, List.getElem?_take_of_lt htl]
theorem Mid.load {g cap j : Nat} {kept : List Pk} (h : Mid w g cap ps kept j) (p : Pk) (hp : ps[j]? = some p) :
    w.cell? ⟨g, j * 3, none⟩ = some (.int .i64 p.1) ∧ w.cell? ⟨g, j * 3 + 1, none⟩ = some (.int .i64 p.2.1) ∧ w.cell? ⟨g, j * 3 + 2, none⟩ = some (.string p.2.2) := by
  obtain ⟨cur, hb, hs, _, h2⟩ := h
  obtain ⟨c0, c1, c2⟩ := cells_get ps j p hp
  have hlt := (List.getElem?_eq_some_iff.1 hp).1
  exact ⟨by rw [hb.cell, h2 _ (by omega) (by omega)]; exact c0, by rw [hb.cell, h2 _ (by omega) (by omega)]; exact c1, by rw [hb.cell, h2 _ (by omega) (by omega)]; exact c2⟩
theorem Mid.skip {g cap j : Nat} {kept : List Pk} (h : Mid w g cap ps kept j) : Mid w g cap ps kept (j + 1) := by
  obtain ⟨cur, hb, hs, h1, h2⟩ := h
  exact ⟨cur, hb, hs, h1, fun t ht => h2 t (by omega)⟩
theorem Mid.below {g cap j B : Nat} {kept : List Pk} (h : Mid w g cap ps kept j) (hb : Below B w w') (hB : w.heap.size ≤ B) : Mid w' g cap ps kept j := by
  obtain ⟨cur, hx, h1⟩ := h
  exact ⟨cur, hx.below hb (Nat.lt_of_lt_of_le hx.lt hB), h1⟩
theorem Mid.lt {g cap j : Nat} {kept : List Pk} (h : Mid w g cap ps kept j) : g < w.heap.size := by
  obtain ⟨cur, hx, _⟩ := h
  exact hx.lt
theorem Mid.store {g cap j : Nat} {kept : List Pk} (h : Mid w g cap ps kept j) (p : Pk) (hj : kept.length < j) (hc : kept.length < cap) :
    Mid (((w.setCell ⟨g, kept.length * 3, none⟩ (.int .i64 p.1)).setCell ⟨g, kept.length * 3 + 1, none⟩ (.int .i64 p.2.1)).setCell ⟨g, kept.length * 3 + 2, none⟩ (.string p.2.2)) g cap ps (kept ++ [p]) j := by
  obtain ⟨cur, hb, hs, h1, h2⟩ := h
  refine ⟨_, ((hb.set _ _).set _ _).set _ _, by simp [hs], fun t ht => ?_, fun t ht ht2 => ?_⟩
  · rw [List.length_append, List.length_cons, List.length_nil] at ht
    rw [cells_snoc]
    have hl := cells_len kept
    rcases Nat.lt_or_ge t (kept.length * 3) with h3 | h3
    · rw [Array.getElem?_setIfInBounds_ne (by omega), Array.getElem?_setIfInBounds_ne (by omega), Array.getElem?_setIfInBounds_ne (by omega), List.getElem?_append_left (by omega)]
      exact h1 t h3
    · rw [List.getElem?_append_right (by omega), hl]
      obtain ⟨d, rfl⟩ : ∃ d, t = kept.length * 3 + d := ⟨t - kept.length * 3, by omega⟩
      rw [Nat.add_sub_cancel_left]
      match d, ht with
      | 0, _ => rw [Array.getElem?_setIfInBounds_ne (by omega), Array.getElem?_setIfInBounds_ne (by omega), Nat.add_zero, Array.getElem?_setIfInBounds_self_of_lt (by omega)]; rfl
      | 1, _ => rw [Array.getElem?_setIfInBounds_ne (by omega), Array.getElem?_setIfInBounds_self_of_lt (by simp; omega)]; rfl
      | 2, _ => rw [Array.getElem?_setIfInBounds_self_of_lt (by simp; omega)]; rfl
      | d + 3, hd => omega
  · rw [Array.getElem?_setIfInBounds_ne (by omega), Array.getElem?_setIfInBounds_ne (by omega), Array.getElem?_setIfInBounds_ne (by omega)]
    exact h2 t ht ht2
theorem Mid.frozen {g cap j : Nat} {kept : List Pk} (h : Mid w g cap ps kept j) (t : Nat) : w.frozen? ⟨g, t, none⟩ = false := by
  obtain ⟨cur, hx, _⟩ := h
  exact hx.frozen t
theorem Mid.some {g cap j : Nat} {kept : List Pk} (h : Mid w g cap ps kept j) (t : Nat) (ht : t < cap * 3) : ∃ u, w.cell? ⟨g, t, none⟩ = some u := by
  obtain ⟨cur, hx, hs, _⟩ := h
  exact ⟨cur[t]'(by omega), by rw [hx.cell]; exact Array.getElem?_eq_getElem (by omega)⟩

theorem kept_snoc (f : Pk → Bool) (l : List Pk) (j : Nat) (p : Pk) (h : l[j]? = some p) : (l.take (j + 1)).filter f = (l.take j).filter f ++ if f p then [p] else [] := by
  rw [List.take_add_one, h, List.filter_append]
  cases hf : f p <;> simp [hf]
theorem kept_start (f : Pk → Bool) (l : List Pk) (h : l.findIdx f < l.length) : (l.take (l.findIdx f + 1)).filter (fun p => !f p) = l.take (l.findIdx f) := by
  have hp : l[l.findIdx f]? = some (l[l.findIdx f]) := List.getElem?_eq_getElem h
  have hf : f (l[l.findIdx f]) = true := List.findIdx_getElem
  rw [kept_snoc _ l _ _ hp, hf]
  simp only [Bool.not_true, Bool.false_eq_true, if_false, List.append_nil]
  rw [List.filter_eq_self]
  intro x hx
  obtain ⟨i, hi, rfl⟩ := List.getElem_of_mem hx
  rw [List.length_take] at hi
  have := List.not_of_lt_findIdx (p := f) (xs := l) (i := i) (by omega)
  rw [List.getElem_take]
  simpa using this
theorem kept_none (f : Pk → Bool) (l : List Pk) (h : ¬ l.findIdx f < l.length) : l.filter (fun p => !f p) = l := by
  rw [List.filter_eq_self]
  intro x hx
  have : ∀ y ∈ l, f y = false := by
    have h1 : l.findIdx f = l.length := by have := List.findIdx_le_length (p := f) (xs := l); omega
    simpa [List.findIdx_eq_length] using h1
  simp [this x hx]

set_option maxHeartbeats 1000000 in
theorem deleteFunc_any (ba bb : Nat) (a b : Int) (ad : Option Addr) (c : Nat) (h : w.ownsRow base 27 3 (.slice ad ps.length c) ps.length (cellsOf ps)) (hv : Vars w ba bb a b) (hM : ps.length ≤ 3000) :
    Calls Try.prog 23 #[.slice ad ps.length c, pickF ba bb] w fun e w' => ∃ v', e = .returned v' ∧ w'.ownsRow base 27 3 v' (ps.filter fun p => !goesB a b p).length (cellsOf (ps.filter fun p => !goesB a b p)) ∧
      v'.ownBlock = (Value.slice ad ps.length c).ownBlock ∧ w.grownBy w' (Value.slice ad ps.length c).ownBlock := by
  have C0 := Lib.hid (index_any ba bb a b ad c h hv hM)
  have HO := Lib.hid h
  have HV := Lib.hid hv
  clear h hv
  by_cases hf : ps.findIdx (goesB a b) < ps.length
  · have hI : idxI (goesB a b) ps = (ps.findIdx (goesB a b) : Int) := by rw [idxI, if_pos hf]
    rw [hI] at C0
    obtain ⟨k, hk⟩ : ∃ k, k = ps.findIdx (goesB a b) := ⟨_, rfl⟩
    have HK0 := Lib.hid (kept_start _ _ hf)
    rw [← hk] at C0 hf HK0
    obtain ⟨g, cap, he, hcm⟩ : ∃ g cap, (Value.slice ad ps.length c) = .slice (some ⟨g, 0, none⟩) ps.length cap ∧ ps.length ≤ cap ∧ cap ≤ maxLen := by
      rcases HO.out.2 with ⟨h0, h1⟩ | ⟨g, cap, cur, he, _, _, h1, h2, _⟩
      · omega
      · exact ⟨g, cap, he, h1, h2⟩
    obtain ⟨rfl, rfl⟩ : ad = some ⟨g, 0, none⟩ ∧ c = cap := by simpa using he
    have hne : ((k : Int) == -1) = false := by simp
    have hcap := hcm.1
    have hcm2 : c ≤ 9223372036854775807 := by have := hcm.2; unfold maxLen at this; omega
    clear he hI hcm
    have HK := Lib.hid hk
    clear hk
    go_enter Try.func23, Try.ntmps23
    go_wp2_with fail
    refine C0.out.mono ?_
    rintro e w1 ⟨rfl, b1⟩
    have HM1 := Lib.hid (Mid.start (own_stays_below HO.out b1 (Nat.le_refl _)) k (by omega))
    have HB1 := Lib.hid b1
    clear b1 C0
    go_wp2
    go_loopw [5, 6] (fun i j wr => ∃ t : Nat, i = .int .i64 (((ps.take t).filter fun p => !goesB a b p).length : Nat) ∧ j = .int .i64 (t : Nat) ∧ k < t ∧ t ≤ ps.length ∧ Mid wr g c ps ((ps.take t).filter fun p => !goesB a b p) t ∧ w.grownBy wr (some g)) (fun _ j _ => ps.length - (intOf j).toNat)
    case atStart =>
      refine ⟨k + 1, ?_, by go_num, by omega, by omega, ?_, World.grownBy.of_below HB1.out⟩
      · rw [HK0.out, List.length_take, Nat.min_eq_left (by omega)]
      · rw [HK0.out]; exact HM1.out
    case round =>
      obtain ⟨t, rfl, rfl, hkt, ht, hMid, hgr⟩ := hrel
      obtain ⟨kept, hkept⟩ : ∃ kept, kept = (ps.take t).filter fun p => !goesB a b p := ⟨_, rfl⟩
      rw [← hkept] at hMid ⊢
      obtain ⟨l, hl⟩ : ∃ l, l = kept.length := ⟨_, rfl⟩
      have hlk : kept.length < t := by
        rw [hkept]
        have h1 := HK0.out
        have h2 : (ps.take t).filter (fun p => !goesB a b p) = (ps.take k) ++ ((ps.take t).drop (k + 1)).filter (fun p => !goesB a b p) := by
          rw [← h1, show ps.take (k + 1) = (ps.take t).take (k + 1) by rw [List.take_take, Nat.min_eq_left (by omega)], ← List.filter_append, List.take_append_drop]
        rw [h2, List.length_append, List.length_take]
        have := List.length_filter_le (fun p => !goesB a b p) ((ps.take t).drop (k + 1))
        rw [List.length_drop, List.length_take] at this
        omega
      rw [← hl] at hlk ⊢
      have HMid := Lib.hid hMid
      have HKE := Lib.hid hkept
      have HL := Lib.hid hl
      have HG := Lib.hid hgr
      have hgl := hMid.lt
      clear hMid hkept hl hgr
      by_cases hlt : t < ps.length
      · obtain ⟨p, hpe⟩ : ∃ p, p = ps[t] := ⟨_, rfl⟩
        have hp : ps[t]? = some p := by rw [hpe]; exact List.getElem?_eq_getElem hlt
        obtain ⟨d0, d1, d2⟩ := HMid.out.load p hp
        obtain ⟨q, hq⟩ : ∃ q, goesB a b p = q := ⟨_, rfl⟩
        have hba : some ba ≠ some g := fun e => (own_box_ne HO.out HV.out.fst (by decide)) e.symm
        have hbb : some bb ≠ some g := fun e => (own_box_ne HO.out HV.out.snd (by decide)) e.symm
        have HVr : Vars (wr.alloc (.cells #[.int .i64 p.1, .int .i64 p.2.1, .string p.2.2] 27)) ba bb a b := ⟨(HV.out.fst.grown HG.out hba).alloc _, (HV.out.snd.grown HG.out hbb).alloc _⟩
        have C1 := Lib.hid (pick_any p ba bb a b HVr q hq)
        have HX := Lib.hid (Box.new wr 27 #[.int .i64 p.1, .int .i64 p.2.1, .string p.2.2])
        have HQ := Lib.hid hq
        have HP := Lib.hid hp
        have HS := Lib.hid (kept_snoc (fun p => !goesB a b p) ps t p hp)
        unfold pv at C1
        clear hpe hp hq HVr hba hbb
        go_wp2_with fail
        refine C1.out.mono ?_
        rintro e w2 ⟨rfl, b2⟩
        have HX2 := Lib.hid (HX.out.below b2 (by simp))
        have HM2 := Lib.hid ((show Mid (wr.alloc (.cells #[.int .i64 p.1, .int .i64 p.2.1, .string p.2.2] 27)) g c ps kept t from HMid.out.below (Below.alloc (Below.refl wr.heap.size wr) (Nat.le_refl _) _) (Nat.le_refl _)).below b2 (by simp))
        have HG2 := Lib.hid (grownBy_trans (grownBy_trans HG.out (World.grownBy.of_below (Below.alloc (Below.refl wr.heap.size wr) (Nat.le_refl _) (.cells #[.int .i64 p.1, .int .i64 p.2.1, .string p.2.2] 27)))) (World.grownBy.of_below b2))
        have hw2 := HX2.out.lt
        clear C1 b2 d0 d1 d2
        cases q
        · have e0 : w2.cell? ⟨wr.heap.size, 0, none⟩ = some (.int .i64 p.1) := HX2.out.cell 0
          have e1 : w2.cell? ⟨wr.heap.size, 1, none⟩ = some (.int .i64 p.2.1) := HX2.out.cell 1
          have e2 : w2.cell? ⟨wr.heap.size, 2, none⟩ = some (.string p.2.2) := HX2.out.cell 2
          obtain ⟨u0, g0⟩ := HM2.out.some (l * 3) (by omega)
          obtain ⟨u1, g1⟩ := HM2.out.some (l * 3 + 1) (by omega)
          obtain ⟨u2, g2⟩ := HM2.out.some (l * 3 + 2) (by omega)
          have f0 := HM2.out.frozen (l * 3)
          have f1 := HM2.out.frozen (l * 3 + 1)
          have f2 := HM2.out.frozen (l * 3 + 2)
          have hlen1 : (l : Int) < (ps.length : Int) := by omega
          have hlen2 : (l : Int) < 3000 := by omega
          go_wp2
          go_roundw
          case rel =>
            have hk2 : (ps.take (t + 1)).filter (fun p => !goesB a b p) = kept ++ [p] := by
              have h1 := HS.out
              have h2 := HQ.out
              simp only [h2, Bool.not_false, if_true] at h1
              rw [h1, ← HKE.out]
            refine ⟨t + 1, ?_, by go_num, by omega, by omega, ?_, ?_⟩
            · rw [hk2, List.length_append, ← HL.out]; go_num
            · rw [hk2]
              have := (HM2.out.store p (by have := HL.out; omega) (by have := HL.out; omega)).skip
              rw [← HL.out] at this
              exact this
            · exact grownBy_set (grownBy_set (grownBy_set HG2.out _ _) _ _) _ _
          case measure => simp [intOf]; omega
        · go_wp2
          go_roundw
          case rel =>
            have hk2 : (ps.take (t + 1)).filter (fun p => !goesB a b p) = kept := by
              have h1 := HS.out
              have h2 := HQ.out
              simp only [h2, Bool.not_true, Bool.false_eq_true, if_false, List.append_nil] at h1
              rw [h1, ← HKE.out]
            refine ⟨t + 1, ?_, by go_num, by omega, by omega, ?_, HG2.out⟩
            · rw [hk2, ← HL.out]
            · rw [hk2]; exact HM2.out.skip
          case measure => simp [intOf]; omega
      · obtain rfl : t = ps.length := by omega
        obtain ⟨i0, hi, hz0, hz1, hz2⟩ := info_parts row27
        have hz : i0.zero = some zeroPk := hz0
        obtain ⟨cur, hbox, hcs, hpre, _⟩ := HMid.out
        have HBX := Lib.hid (show wr.heap[g]? = some (.cells cur 27 (0, 0)) from hbox)
        have HCS := Lib.hid hcs
        have HPR := Lib.hid hpre
        clear hz0 hbox hcs hpre
        have s1 : ∀ w : World, (Instr.sliceAt 22 (.slice (some ⟨g, 0, none⟩) ps.length c) (some (.int .i64 (l : Int))) none none).run Try.prog w = .ok (.slice (some ⟨g, l * 3, none⟩) (ps.length - l) (c - l)) w := fun w => by
          have := cut_l elem22 size22 g 0 ps.length c w l (by omega)
          rwa [if_neg (by omega), Nat.zero_add] at this
        have s2 : ∀ w : World, (Instr.sliceAt 22 (.slice (some ⟨g, 0, none⟩) ps.length c) none (some (.int .i64 (l : Int))) none).run Try.prog w = .ok (.slice (some ⟨g, 0, none⟩) l c) w :=
          fun w => cut_h elem22 size22 g 0 ps.length c w l (by omega)
        have HFIT := Lib.hid (show l * 3 + (ps.length - l) * 3 ≤ cur.size by have := HCS.out; omega)
        go_wp2_with (with_reducible refine wpList_clear_row rfl (.tmp 38) 22 rfl 27 i0 zeroPk Try.underlying22 hi hz zero_one 3 (by omega) rfl g (l * 3) (ps.length - l) _ cur HBX.out rfl HFIT.out ?_; intro new2 hn2)
        go_ret
        have hfin : ps.filter (fun p => !goesB a b p) = kept := by have := HKE.out; rw [List.take_length] at this; exact this.symm
        refine ⟨_, rfl, ?_, rfl, grown_setRow HG.out _⟩
        rw [hfin, ← HL.out]
        rcases HO.out.2 with ⟨h0, h1⟩ | ⟨g', cap', cur', he, hbg, _, h1, h2, _⟩
        · cases h0
        · obtain ⟨rfl, rfl⟩ : g = g' ∧ c = cap' := by simpa using he
          refine own_setRow HBX.out hbg (by omega) h2 (by rw [hn2.out.1, HCS.out]) (by rw [cells_len, ← HL.out]) ?_
          rw [hn2.out.2]
          apply List.ext_getElem?
          intro j
          rcases Nat.lt_or_ge j (l * 3) with hj | hj
          · rw [List.getElem?_take_of_lt hj, Array.getElem?_toList]
            exact HPR.out j (by have := HL.out; omega)
          · rw [List.getElem?_eq_none (by rw [List.length_take]; omega), List.getElem?_eq_none (by rw [cells_len, ← HL.out]; exact hj)]
  · have hI : idxI (goesB a b) ps = -1 := by rw [idxI, if_neg hf]
    rw [hI] at C0
    have HK := Lib.hid (kept_none _ _ hf)
    clear hI hf
    go_enter Try.func23, Try.ntmps23
    go_wp2_with fail
    refine C0.out.mono ?_
    rintro e w1 ⟨rfl, b1⟩
    go_wp2
    go_ret
    refine ⟨_, rfl, ?_, rfl, World.grownBy.of_below b1⟩
    rw [HK.out]
    exact own_stays_below HO.out b1 (Nat.le_refl _)
end Go.Proofs.Ytejoggbebmmlkaa
