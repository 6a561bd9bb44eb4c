/- watcher: slices.IndexFunc and slices.DeleteFunc over a row of watches, by a function with effects of its own. Conditions: the row is the call's own. -/
import Derived.Test.YtmcjpochpmiipaaDoorVe
namespace Go.Proofs.YtmcjpochpmiipaaDoor
open Go Go.RowKit Zn
set_option linter.unusedVariables false
set_option linter.unusedSimpArgs false
variable {w w' : World} {base n m : Nat} {v : Value} {ps : List Wt}

/-- A function of watches that keeps a state of its own above B: it tells f, and steps. -/
structure Clos {σ : Type} (B fid : Nat) (args : Value → Array Value) (f : Wt → Bool) (step : σ → Wt → σ) (S : Nat → σ → World → Prop) : Prop where
  call : ∀ k s p w0 w, k < 1000 → B ≤ w0.heap.size → S k s w0 → w0.heap.size ≤ w.heap.size → (∀ i, B ≤ i → i < w0.heap.size → w.heap[i]? = w0.heap[i]?) →
    Calls Tryd.prog fid (args (tv p)) w fun e w' => e = .returned (.bool (f p)) ∧ S (k + 1) (step s p) w' ∧ Below B w w' ∧ ∀ i, w0.heap.size ≤ i → i < w.heap.size → w'.heap[i]? = w.heap[i]?
  stay : ∀ k s w w', S k s w → w.heap.size ≤ w'.heap.size → (∀ i, B ≤ i → i < w.heap.size → w'.heap[i]? = w.heap[i]?) → S k s w'
theorem fold_snoc {σ : Type} (step : σ → Wt → σ) (s : σ) (l : List Wt) (k : Nat) (p : Wt) (h : l[k]? = some p) : (l.take (k + 1)).foldl step s = step ((l.take k).foldl step s) p := by
  rw [List.take_add_one, h, List.foldl_append]; rfl
/-- where the first one is, or -1. -/
def idxI (f : Wt → Bool) (l : List Wt) : Int := if l.findIdx f < l.length then (l.findIdx f : Int) else -1
def idxN (f : Wt → Bool) (l : List Wt) : Nat := if l.findIdx f < l.length then l.findIdx f + 1 else l.length

/-- a row in the midst of DeleteFunc: a kept ones at its head, those from j on as they were. -/
def Mid (w : World) (g cap : Nat) (ps kept : List Wt) (j : Nat) : Prop :=
  ∃ cur : Array Value, Box w g 31 cur ∧ cur.size = cap * 3 ∧ (∀ t, t < kept.length * 3 → cur[t]? = (cellsOf kept)[t]?) ∧ ∀ t, j * 3 ≤ t → t < ps.length * 3 → cur[t]? = (cellsOf ps)[t]?
theorem Mid.start {g cap : Nat} (h : w.ownsRow base 31 3 (.slice (some ⟨g, 0, none⟩) ps.length cap) ps.length (cellsOf ps)) (k : Nat) (hk : k ≤ ps.length) : Mid w g cap ps (ps.take k) (k + 1) := by
  rcases h.2 with ⟨h0, _⟩ | ⟨g', cap', cur, he, hb, hg, hc, hm, hcs, ht⟩
  · cases h0
  · obtain ⟨rfl, rfl⟩ : g = g' ∧ cap = cap' := by simpa using he
    have hall : ∀ t, t < ps.length * 3 → cur[t]? = (cellsOf ps)[t]? := fun t htl => by
      rw [← ht, List.getElem?_take_of_lt htl, Array.getElem?_toList]
    refine ⟨cur, hg, hcs, fun t htl => ?_, fun t _ htl => hall t htl⟩
    rw [List.length_take, Nat.min_eq_left hk] at htl
    rw [hall t (by omega), ← cells_take, List.getElem?_take_of_lt htl]
theorem Mid.load {g cap j : Nat} {kept : List Wt} (h : Mid w g cap ps kept j) (p : Wt) (hp : ps[j]? = some p) :
    w.cell? ⟨g, j * 3, none⟩ = some (.int .i64 p.1) ∧ w.cell? ⟨g, j * 3 + 1, none⟩ = some (.string p.2.1) ∧ w.cell? ⟨g, j * 3 + 2, none⟩ = some (.bool p.2.2) := by
  obtain ⟨cur, hb, hs, _, h2⟩ := h
  obtain ⟨c0, c1, c2⟩ := cells_get ps j p hp
  have hlt := (List.getElem?_eq_some_iff.1 hp).1
  exact ⟨by rw [hb.cell, h2 _ (by omega) (by omega)]; exact c0, by rw [hb.cell, h2 _ (by omega) (by omega)]; exact c1, by rw [hb.cell, h2 _ (by omega) (by omega)]; exact c2⟩
theorem Mid.skip {g cap j : Nat} {kept : List Wt} (h : Mid w g cap ps kept j) : Mid w g cap ps kept (j + 1) := by
  obtain ⟨cur, hb, hs, h1, h2⟩ := h
  exact ⟨cur, hb, hs, h1, fun t ht => h2 t (by omega)⟩
theorem Mid.stay {g cap j : Nat} {kept : List Wt} (h : Mid w g cap ps kept j) (hk : w'.heap[g]? = w.heap[g]?) : Mid w' g cap ps kept j := by
  obtain ⟨cur, hx, h1⟩ := h
  exact ⟨cur, hk.trans hx, h1⟩
theorem Mid.lt {g cap j : Nat} {kept : List Wt} (h : Mid w g cap ps kept j) : g < w.heap.size := by
  obtain ⟨cur, hx, _⟩ := h
  exact hx.lt
theorem Mid.store {g cap j : Nat} {kept : List Wt} (h : Mid w g cap ps kept j) (p : Wt) (hj : kept.length < j) (hc : kept.length < cap) :
    Mid (((w.setCell ⟨g, kept.length * 3, none⟩ (.int .i64 p.1)).setCell ⟨g, kept.length * 3 + 1, none⟩ (.string p.2.1)).setCell ⟨g, kept.length * 3 + 2, none⟩ (.bool p.2.2)) g cap ps (kept ++ [p]) j := by
  obtain ⟨cur, hb, hs, h1, h2⟩ := h
  refine ⟨_, ((hb.set _ _).set _ _).set _ _, by simp [hs], fun t ht => ?_, fun t ht ht2 => ?_⟩
  · rw [List.length_append, List.length_cons, List.length_nil] at ht
    rw [cells_snoc]
    have hl := cells_len kept
    rcases Nat.lt_or_ge t (kept.length * 3) with h3 | h3
    · rw [Array.getElem?_setIfInBounds_ne (by omega), Array.getElem?_setIfInBounds_ne (by omega), Array.getElem?_setIfInBounds_ne (by omega), List.getElem?_append_left (by omega)]
      exact h1 t h3
    · rw [List.getElem?_append_right (by omega), hl]
      obtain ⟨d, rfl⟩ : ∃ d, t = kept.length * 3 + d := ⟨t - kept.length * 3, by omega⟩
      rw [Nat.add_sub_cancel_left]
      match d, ht with
      | 0, _ => rw [Array.getElem?_setIfInBounds_ne (by omega), Array.getElem?_setIfInBounds_ne (by omega), Nat.add_zero, Array.getElem?_setIfInBounds_self_of_lt (by omega)]; rfl
      | 1, _ => rw [Array.getElem?_setIfInBounds_ne (by omega), Array.getElem?_setIfInBounds_self_of_lt (by simp; omega)]; rfl
      | 2, _ => rw [Array.getElem?_setIfInBounds_self_of_lt (by simp; omega)]; rfl
      | d + 3, hd => omega
  · rw [Array.getElem?_setIfInBounds_ne (by omega), Array.getElem?_setIfInBounds_ne (by omega), Array.getElem?_setIfInBounds_ne (by omega)]
    exact h2 t ht ht2
theorem Mid.frozen {g cap j : Nat} {kept : List Wt} (h : Mid w g cap ps kept j) (t : Nat) : w.frozen? ⟨g, t, none⟩ = false := by
  obtain ⟨cur, hx, _⟩ := h
  exact hx.frozen t
theorem Mid.some {g cap j : Nat} {kept : List Wt} (h : Mid w g cap ps kept j) (t : Nat) (ht : t < cap * 3) : ∃ u, w.cell? ⟨g, t, none⟩ = some u := by
  obtain ⟨cur, hx, hs, _⟩ := h
  exact ⟨cur[t]'(by omega), by rw [hx.cell]; exact Array.getElem?_eq_getElem (by omega)⟩

theorem kept_snoc (f : Wt → Bool) (l : List Wt) (j : Nat) (p : Wt) (h : l[j]? = some p) : (l.take (j + 1)).filter f = (l.take j).filter f ++ if f p then [p] else [] := by
  rw [List.take_add_one, h, List.filter_append]
  cases hf : f p <;> simp [hf]
theorem kept_start (f : Wt → Bool) (l : List Wt) (h : l.findIdx f < l.length) : (l.take (l.findIdx f + 1)).filter (fun p => !f p) = l.take (l.findIdx f) := by
  have hp : l[l.findIdx f]? = some (l[l.findIdx f]) := List.getElem?_eq_getElem h
  have hf : f (l[l.findIdx f]) = true := List.findIdx_getElem
  rw [kept_snoc _ l _ _ hp, hf]
  simp only [Bool.not_true, Bool.false_eq_true, if_false, List.append_nil]
  rw [List.filter_eq_self]
  intro x hx
  obtain ⟨i, hi, rfl⟩ := List.getElem_of_mem hx
  rw [List.length_take] at hi
  have := List.not_of_lt_findIdx (p := f) (xs := l) (i := i) (by omega)
  rw [List.getElem_take]
  simpa using this
theorem kept_none (f : Wt → Bool) (l : List Wt) (h : ¬ l.findIdx f < l.length) : l.filter (fun p => !f p) = l := by
  rw [List.filter_eq_self]
  intro x hx
  have : ∀ y ∈ l, f y = false := by
    have h1 : l.findIdx f = l.length := by have := List.findIdx_le_length (p := f) (xs := l); omega
    simpa [List.findIdx_eq_length] using h1
  simp [this x hx]


def zeroWt : Value := .agg #[.int .i64 0, .string ⟨#[]⟩, .bool false]
theorem zero_one : ∀ u ∈ zeroWt.cells.toList, u.oneCell' = true := by intro u hu; simp [zeroWt, Value.cells] at hu; rcases hu with rfl | rfl | rfl <;> rfl
theorem Touch.of_bel {B g : Nat} (h : Below B w w') : Touch (fun i => i = g ∨ B ≤ i) w w' := ⟨h.os, h.tape, h.output, h.size, fun k _ hn => h.block k (by omega)⟩
theorem indexD_any {σ : Type} {B : Nat} {cb : Nat} {f : Wt → Bool} {step : σ → Wt → σ} {S : Nat → σ → World → Prop} (H : Clos B 32 (fun u => #[u, .pointer (some ⟨cb, 0, none⟩)]) f step S) (s0 : σ) (ad : Option Addr) (c : Nat)
    (h : w.ownsRow base 31 3 (.slice ad ps.length c) ps.length (cellsOf ps)) (hB : B ≤ w.heap.size) (hg : ∀ g, (Value.slice ad ps.length c).ownBlock = some g → g < B) (hS : S 0 s0 w) (hM : ps.length ≤ 1000) :
    Calls Tryd.prog 43 #[.slice ad ps.length c, .func (.func 32) #[] #[.pointer (some ⟨cb, 0, none⟩)]] w fun e w' => e = .returned (.int .i64 (idxI f ps)) ∧ S (idxN f ps) ((ps.take (idxN f ps)).foldl step s0) w' ∧ Below B w w' := by
  have HO := Lib.hid h
  have HS := Lib.hid hS
  have HC := Lib.hid H
  have HG := Lib.hid hg
  clear h hS H hg
  go_enter Tryd.func43, Tryd.ntmps43
  go_wp2
  go_loopw [8] (fun i wr => ∃ k : Nat, k ≤ ps.length ∧ i = .int .i64 k ∧ k ≤ ps.findIdx f ∧ S k ((ps.take k).foldl step s0) wr ∧ Below B w wr) (fun i _ => ps.length - (intOf i).toNat)
  case atStart => exact ⟨0, Nat.zero_le _, rfl, Nat.zero_le _, HS.out, Below.refl _ _⟩
  case round =>
    obtain ⟨k, hk, rfl, hf, hst, hbel⟩ := hrel
    by_cases hlt : k < ps.length
    · obtain ⟨p, hpe⟩ : ∃ p, p = ps[k] := ⟨_, rfl⟩
      have hp : ps[k]? = some p := by rw [hpe]; exact List.getElem?_eq_getElem hlt
      have HOr := own_stays HO.out (w' := wr) (fun j hj => hbel.block j (HG.out j hj))
      obtain ⟨g, cap, he, hg, d0, d1, d2⟩ := own_cells HOr k _ hp
      obtain ⟨rfl, rfl⟩ : ad = some ⟨g, 0, none⟩ ∧ c = cap := by simpa using he
      obtain ⟨q, hq⟩ : ∃ q, f p = q := ⟨_, rfl⟩
      have C1 := Lib.hid (HC.out.call k _ p wr wr (by omega) (Nat.le_trans hB hbel.size) hst (Nat.le_refl _) (fun _ _ _ => rfl))
      rw [hq, ← fold_snoc step s0 ps k p hp] at C1
      have HQ := Lib.hid hq
      have HPE := Lib.hid hpe
      have HF := Lib.hid hf
      have HB := Lib.hid hbel
      dsimp only [tv] at C1
      clear he hq hp hpe hf hbel hst HOr
      go_wp2_with fail
      refine C1.out.mono ?_
      rintro e w2 ⟨rfl, st2, b2, _⟩
      have HB2 := Lib.hid (HB.out.trans b2)
      have HS2 := Lib.hid st2
      clear C1 b2 d0 d1 d2 st2
      cases q
      · go_wp2
        go_roundw
        case rel =>
          refine ⟨k + 1, by omega, by go_num, ?_, HS2.out, HB2.out⟩
          have h1 := HF.out
          rcases Nat.lt_or_ge k (ps.findIdx f) with h2 | h2
          · omega
          · exfalso
            have h3 : ps.findIdx f = k := by omega
            have := List.findIdx_getElem (w := (by rw [h3]; exact hlt : ps.findIdx f < ps.length))
            simp only [h3] at this
            rw [← HPE.out, HQ.out] at this
            cases this
        case measure => simp [intOf]; omega
      · have hI : ps.findIdx f = k := by
          have h1 : ps.findIdx f ≤ k := by
            rcases Nat.lt_or_ge k (ps.findIdx f) with h2 | h2
            · have := List.not_of_lt_findIdx h2
              rw [← HPE.out, HQ.out] at this
              simp at this
            · exact h2
          have h2 := HF.out
          omega
        have HI := Lib.hid (show idxI f ps = (k : Int) by rw [idxI, if_pos (by omega), hI])
        have HJ := Lib.hid (show idxN f ps = k + 1 by rw [idxN, if_pos (by omega), hI])
        clear hI
        go_wp2
        go_ret
        exact ⟨by rw [HI.out]; rfl, by rw [HJ.out]; exact HS2.out, HB2.out⟩
    · obtain rfl : k = ps.length := by omega
      have HI := Lib.hid (show idxI f ps = -1 by rw [idxI, if_neg (by omega)])
      have HJ := Lib.hid (show idxN f ps = ps.length by rw [idxN, if_neg (by omega)])
      have HB := Lib.hid hbel
      have HS2 := Lib.hid hst
      clear hbel hst hf
      go_wp2
      go_ret
      exact ⟨by rw [HI.out]; rfl, by rw [HJ.out]; exact HS2.out, HB.out⟩

set_option maxHeartbeats 1000000 in
theorem deleteD_any {σ : Type} {B : Nat} {cb : Nat} {f : Wt → Bool} {step : σ → Wt → σ} {S : Nat → σ → World → Prop} (H : Clos B 32 (fun u => #[u, .pointer (some ⟨cb, 0, none⟩)]) f step S) (s0 : σ) (ad : Option Addr) (c : Nat)
    (h : w.ownsRow base 31 3 (.slice ad ps.length c) ps.length (cellsOf ps)) (hB : B ≤ w.heap.size) (hg : ∀ g, (Value.slice ad ps.length c).ownBlock = some g → g < B) (hS : S 0 s0 w) (hM : ps.length ≤ 1000) :
    Calls Tryd.prog 29 #[.slice ad ps.length c, .func (.func 32) #[] #[.pointer (some ⟨cb, 0, none⟩)]] w fun e w' => ∃ v', e = .returned v' ∧ w'.ownsRow base 31 3 v' (ps.filter fun p => !f p).length (cellsOf (ps.filter fun p => !f p)) ∧
      v'.ownBlock = (Value.slice ad ps.length c).ownBlock ∧ S ps.length (ps.foldl step s0) w' ∧ Touch (fun i => (Value.slice ad ps.length c).ownBlock = some i ∨ B ≤ i) w w' := by
  have C0 := Lib.hid (indexD_any H s0 ad c h hB hg hS hM)
  have HO := Lib.hid h
  have HCL := Lib.hid H
  have HGB := Lib.hid hg
  clear h H hg hS
  by_cases hf : ps.findIdx f < ps.length
  · have hI : idxI f ps = (ps.findIdx f : Int) := by rw [idxI, if_pos hf]
    have hJ : idxN f ps = ps.findIdx f + 1 := by rw [idxN, if_pos hf]
    rw [hI, hJ] at C0
    obtain ⟨k, hk⟩ : ∃ k, k = ps.findIdx f := ⟨_, rfl⟩
    have HK0 := Lib.hid (kept_start _ _ hf)
    rw [← hk] at C0 hf HK0
    obtain ⟨g, cap, he, hcm⟩ : ∃ g cap, (Value.slice ad ps.length c) = .slice (some ⟨g, 0, none⟩) ps.length cap ∧ ps.length ≤ cap ∧ cap ≤ maxLen := by
      rcases HO.out.2 with ⟨h0, h1⟩ | ⟨g, cap, cur, he, _, _, h1, h2, _⟩
      · omega
      · exact ⟨g, cap, he, h1, h2⟩
    obtain ⟨rfl, rfl⟩ : ad = some ⟨g, 0, none⟩ ∧ c = cap := by simpa using he
    have hgB : g < B := HGB.out g rfl
    have hne : ((k : Int) == -1) = false := by simp
    have hcap := hcm.1
    have hcm2 : c ≤ 9223372036854775807 := by have := hcm.2; unfold maxLen at this; omega
    clear he hI hcm hJ
    have HK := Lib.hid hk
    clear hk
    go_enter Tryd.func29, Tryd.ntmps29
    go_wp2_with fail
    refine C0.out.mono ?_
    rintro e w1 ⟨rfl, st1, b1⟩
    have HM1 := Lib.hid (Mid.start (own_stays HO.out (w' := w1) (fun j hj => b1.block j (HGB.out j hj))) k (by omega))
    have HB1 := Lib.hid b1
    have HS1 := Lib.hid st1
    clear b1 C0 st1
    go_wp2
    go_loopw [5, 6] (fun i j wr => ∃ t : Nat, i = .int .i64 (((ps.take t).filter fun p => !f p).length : Nat) ∧ j = .int .i64 (t : Nat) ∧ k < t ∧ t ≤ ps.length ∧ Mid wr g c ps ((ps.take t).filter fun p => !f p) t ∧ S t ((ps.take t).foldl step s0) wr ∧ Touch (fun i => i = g ∨ B ≤ i) w wr) (fun _ j _ => ps.length - (intOf j).toNat)
    case atStart =>
      refine ⟨k + 1, ?_, by go_num, by omega, by omega, ?_, HS1.out, Touch.of_bel HB1.out⟩
      · rw [HK0.out, List.length_take, Nat.min_eq_left (by omega)]
      · rw [HK0.out]; exact HM1.out
    case round =>
      obtain ⟨t, rfl, rfl, hkt, ht, hMid, hst, hgr⟩ := hrel
      obtain ⟨kept, hkept⟩ : ∃ kept, kept = (ps.take t).filter fun p => !f p := ⟨_, rfl⟩
      rw [← hkept] at hMid ⊢
      obtain ⟨l, hl⟩ : ∃ l, l = kept.length := ⟨_, rfl⟩
      have hlk : kept.length < t := by
        rw [hkept]
        have h1 := HK0.out
        have h2 : (ps.take t).filter (fun p => !f p) = (ps.take k) ++ ((ps.take t).drop (k + 1)).filter (fun p => !f p) := by
          rw [← h1, show ps.take (k + 1) = (ps.take t).take (k + 1) by rw [List.take_take, Nat.min_eq_left (by omega)], ← List.filter_append, List.take_append_drop]
        rw [h2, List.length_append, List.length_take]
        have := List.length_filter_le (fun p => !f p) ((ps.take t).drop (k + 1))
        rw [List.length_drop, List.length_take] at this
        omega
      rw [← hl] at hlk ⊢
      have HMid := Lib.hid hMid
      have HKE := Lib.hid hkept
      have HL := Lib.hid hl
      have HG := Lib.hid hgr
      have HST := Lib.hid hst
      have hgl := hMid.lt
      have hBr : B ≤ wr.heap.size := Nat.le_trans hB hgr.size
      clear hMid hkept hl hgr hst
      by_cases hlt : t < ps.length
      · obtain ⟨p, hpe⟩ : ∃ p, p = ps[t] := ⟨_, rfl⟩
        have hp : ps[t]? = some p := by rw [hpe]; exact List.getElem?_eq_getElem hlt
        obtain ⟨d0, d1, d2⟩ := HMid.out.load p hp
        obtain ⟨q, hq⟩ : ∃ q, f p = q := ⟨_, rfl⟩
        have C1 := Lib.hid (HCL.out.call t _ p wr (wr.alloc (.cells #[.int .i64 p.1, .string p.2.1, .bool p.2.2] 31)) (by omega) hBr HST.out (by simp) (fun i _ hi => Below.heap_alloc wr _ i hi))
        rw [hq, ← fold_snoc step s0 ps t p hp] at C1
        have HX := Lib.hid (Box.new wr 31 #[.int .i64 p.1, .string p.2.1, .bool p.2.2])
        have HQ := Lib.hid hq
        have HS := Lib.hid (kept_snoc (fun p => !f p) ps t p hp)
        dsimp only [tv] at C1
        clear hpe hp hq
        go_wp2_with fail
        refine C1.out.mono ?_
        rintro e w2 ⟨rfl, st2, b2, n2⟩
        have HX2 := Lib.hid (show Box w2 wr.heap.size 31 #[.int .i64 p.1, .string p.2.1, .bool p.2.2] from (n2 wr.heap.size (Nat.le_refl _) (by simp)).trans HX.out)
        have hx2 : w2.heap.size > wr.heap.size := by have h1 := b2.size; simp at h1; omega
        have HM2 := Lib.hid (HMid.out.stay (w' := w2) ((b2.block g hgB).trans (Below.heap_alloc wr _ g hgl)))
        have HG2 := Lib.hid (HG.out.trans ((Touch.alloc (Touch.refl _ wr) (.cells #[.int .i64 p.1, .string p.2.1, .bool p.2.2] 31)).trans (Touch.of_bel (g := g) b2)))
        have HST2 := Lib.hid st2
        clear C1 b2 d0 d1 d2 st2 n2
        cases q
        · have e0 : w2.cell? ⟨wr.heap.size, 0, none⟩ = some (.int .i64 p.1) := HX2.out.cell 0
          have e1 : w2.cell? ⟨wr.heap.size, 1, none⟩ = some (.string p.2.1) := HX2.out.cell 1
          have e2 : w2.cell? ⟨wr.heap.size, 2, none⟩ = some (.bool p.2.2) := HX2.out.cell 2
          obtain ⟨u0, g0⟩ := HM2.out.some (l * 3) (by omega)
          obtain ⟨u1, g1⟩ := HM2.out.some (l * 3 + 1) (by omega)
          obtain ⟨u2, g2⟩ := HM2.out.some (l * 3 + 2) (by omega)
          have f0 := HM2.out.frozen (l * 3)
          have f1 := HM2.out.frozen (l * 3 + 1)
          have f2 := HM2.out.frozen (l * 3 + 2)
          have hlen1 : (l : Int) < (ps.length : Int) := by omega
          have hlen2 : (l : Int) < 3000 := by omega
          go_wp2
          go_roundw
          case rel =>
            have hk2 : (ps.take (t + 1)).filter (fun p => !f p) = kept ++ [p] := by
              have h1 := HS.out
              have h2 := HQ.out
              simp only [h2, Bool.not_false, if_true] at h1
              rw [h1, ← HKE.out]
            refine ⟨t + 1, ?_, by go_num, by omega, by omega, ?_, ?_, ?_⟩
            · rw [hk2, List.length_append, ← HL.out]; go_num
            · rw [hk2]
              have := (HM2.out.store p (by have := HL.out; omega) (by have := HL.out; omega)).skip
              rw [← HL.out] at this
              exact this
            · exact HCL.out.stay _ _ w2 _ HST2.out (by simp [World.setCell]) (fun i hi _ => by rw [Below.heap_setCell _ _ _ _ (by show i ≠ g; omega), Below.heap_setCell _ _ _ _ (by show i ≠ g; omega), Below.heap_setCell _ _ _ _ (by show i ≠ g; omega)])
            · exact ((HG2.out.setCell (.inl rfl) _).setCell (.inl rfl) _).setCell (.inl rfl) _
          case measure => simp [intOf]; omega
        · go_wp2
          go_roundw
          case rel =>
            have hk2 : (ps.take (t + 1)).filter (fun p => !f p) = kept := by
              have h1 := HS.out
              have h2 := HQ.out
              simp only [h2, Bool.not_true, Bool.false_eq_true, if_false, List.append_nil] at h1
              rw [h1, ← HKE.out]
            refine ⟨t + 1, ?_, by go_num, by omega, by omega, ?_, HST2.out, HG2.out⟩
            · rw [hk2, ← HL.out]
            · rw [hk2]; exact HM2.out.skip
          case measure => simp [intOf]; omega
      · obtain rfl : t = ps.length := by omega
        obtain ⟨i0, hi, hz0, hz1, hz2⟩ := info_parts row31
        have hz : i0.zero = some zeroWt := hz0
        obtain ⟨cur, hbox, hcs, hpre, _⟩ := HMid.out
        have HBX := Lib.hid (show wr.heap[g]? = some (.cells cur 31 (0, 0)) from hbox)
        have HCS := Lib.hid hcs
        have HPR := Lib.hid hpre
        clear hz0 hbox hcs hpre
        have s1 : ∀ w : World, (Instr.sliceAt 46 (.slice (some ⟨g, 0, none⟩) ps.length c) (some (.int .i64 (l : Int))) none none).run Tryd.prog w = .ok (.slice (some ⟨g, l * 3, none⟩) (ps.length - l) (c - l)) w := fun w => by
          have := cut_l elem46 size46 g 0 ps.length c w l (by omega)
          rwa [if_neg (by omega), Nat.zero_add] at this
        have s2 : ∀ w : World, (Instr.sliceAt 46 (.slice (some ⟨g, 0, none⟩) ps.length c) none (some (.int .i64 (l : Int))) none).run Tryd.prog w = .ok (.slice (some ⟨g, 0, none⟩) l c) w :=
          fun w => cut_h elem46 size46 g 0 ps.length c w l (by omega)
        have HFIT := Lib.hid (show l * 3 + (ps.length - l) * 3 ≤ cur.size by have := HCS.out; omega)
        go_wp2_with (with_reducible refine wpList_clear_row rfl (.tmp 38) 46 rfl 31 i0 zeroWt Tryd.underlying46 hi hz zero_one 3 (by omega) rfl g (l * 3) (ps.length - l) _ cur HBX.out rfl HFIT.out ?_; intro new2 hn2)
        go_ret
        have hfin : ps.filter (fun p => !f p) = kept := by have := HKE.out; rw [List.take_length] at this; exact this.symm
        have HST9 := HST.out
        rw [List.take_length] at HST9
        refine ⟨_, rfl, ?_, rfl, HCL.out.stay _ _ wr _ HST9 (by simp) (fun i hi _ => Go.setRow_other _ g i new2 (by omega)), (HG.out.setRow (.inl (.inl rfl)) new2).mono (fun i _ hi => hi.imp (fun e => by rw [e]; rfl) id)⟩
        rw [hfin, ← HL.out]
        rcases HO.out.2 with ⟨h0, h1⟩ | ⟨g', cap', cur', he, hbg, _, h1, h2, _⟩
        · cases h0
        · obtain ⟨rfl, rfl⟩ : g = g' ∧ c = cap' := by simpa using he
          refine own_setRow HBX.out hbg (by omega) h2 (by rw [hn2.out.1, HCS.out]) (by rw [cells_len, ← HL.out]) ?_
          rw [hn2.out.2]
          apply List.ext_getElem?
          intro j
          rcases Nat.lt_or_ge j (l * 3) with hj | hj
          · rw [List.getElem?_take_of_lt hj, Array.getElem?_toList]
            exact HPR.out j (by have := HL.out; omega)
          · rw [List.getElem?_eq_none (by rw [List.length_take]; omega), List.getElem?_eq_none (by rw [cells_len, ← HL.out]; exact hj)]
  · have hI : idxI f ps = -1 := by rw [idxI, if_neg hf]
    have hJ : idxN f ps = ps.length := by rw [idxN, if_neg hf]
    rw [hI, hJ, List.take_length] at C0
    have HK := Lib.hid (kept_none _ _ hf)
    clear hI hf hJ
    go_enter Tryd.func29, Tryd.ntmps29
    go_wp2_with fail
    refine C0.out.mono ?_
    rintro e w1 ⟨rfl, st1, b1⟩
    have HS1 := Lib.hid st1
    have HB1 := Lib.hid b1
    clear st1 b1
    go_wp2
    go_ret
    refine ⟨_, rfl, ?_, rfl, HS1.out, ⟨HB1.out.os, HB1.out.tape, HB1.out.output, HB1.out.size, fun i _ hn => HB1.out.block i (by omega)⟩⟩
    rw [HK.out]
    exact own_stays HO.out (fun j hj => HB1.out.block j (HGB.out j hj))
theorem indexF_any {σ : Type} {B : Nat} {cb cc : Nat} {f : Wt → Bool} {step : σ → Wt → σ} {S : Nat → σ → World → Prop} (H : Clos B 30 (fun u => #[u, .pointer (some ⟨cb, 0, none⟩), .pointer (some ⟨cc, 0, none⟩)]) f step S) (s0 : σ) (ad : Option Addr) (c : Nat)
    (h : w.ownsRow base 31 3 (.slice ad ps.length c) ps.length (cellsOf ps)) (hB : B ≤ w.heap.size) (hg : ∀ g, (Value.slice ad ps.length c).ownBlock = some g → g < B) (hS : S 0 s0 w) (hM : ps.length ≤ 1000) :
    Calls Tryd.prog 43 #[.slice ad ps.length c, .func (.func 30) #[] #[.pointer (some ⟨cb, 0, none⟩), .pointer (some ⟨cc, 0, none⟩)]] w fun e w' => e = .returned (.int .i64 (idxI f ps)) ∧ S (idxN f ps) ((ps.take (idxN f ps)).foldl step s0) w' ∧ Below B w w' := by
  have HO := Lib.hid h
  have HS := Lib.hid hS
  have HC := Lib.hid H
  have HG := Lib.hid hg
  clear h hS H hg
  go_enter Tryd.func43, Tryd.ntmps43
  go_wp2
  go_loopw [8] (fun i wr => ∃ k : Nat, k ≤ ps.length ∧ i = .int .i64 k ∧ k ≤ ps.findIdx f ∧ S k ((ps.take k).foldl step s0) wr ∧ Below B w wr) (fun i _ => ps.length - (intOf i).toNat)
  case atStart => exact ⟨0, Nat.zero_le _, rfl, Nat.zero_le _, HS.out, Below.refl _ _⟩
  case round =>
    obtain ⟨k, hk, rfl, hf, hst, hbel⟩ := hrel
    by_cases hlt : k < ps.length
    · obtain ⟨p, hpe⟩ : ∃ p, p = ps[k] := ⟨_, rfl⟩
      have hp : ps[k]? = some p := by rw [hpe]; exact List.getElem?_eq_getElem hlt
      have HOr := own_stays HO.out (w' := wr) (fun j hj => hbel.block j (HG.out j hj))
      obtain ⟨g, cap, he, hg, d0, d1, d2⟩ := own_cells HOr k _ hp
      obtain ⟨rfl, rfl⟩ : ad = some ⟨g, 0, none⟩ ∧ c = cap := by simpa using he
      obtain ⟨q, hq⟩ : ∃ q, f p = q := ⟨_, rfl⟩
      have C1 := Lib.hid (HC.out.call k _ p wr wr (by omega) (Nat.le_trans hB hbel.size) hst (Nat.le_refl _) (fun _ _ _ => rfl))
      rw [hq, ← fold_snoc step s0 ps k p hp] at C1
      have HQ := Lib.hid hq
      have HPE := Lib.hid hpe
      have HF := Lib.hid hf
      have HB := Lib.hid hbel
      dsimp only [tv] at C1
      clear he hq hp hpe hf hbel hst HOr
      go_wp2_with fail
      refine C1.out.mono ?_
      rintro e w2 ⟨rfl, st2, b2, _⟩
      have HB2 := Lib.hid (HB.out.trans b2)
      have HS2 := Lib.hid st2
      clear C1 b2 d0 d1 d2 st2
      cases q
      · go_wp2
        go_roundw
        case rel =>
          refine ⟨k + 1, by omega, by go_num, ?_, HS2.out, HB2.out⟩
          have h1 := HF.out
          rcases Nat.lt_or_ge k (ps.findIdx f) with h2 | h2
          · omega
          · exfalso
            have h3 : ps.findIdx f = k := by omega
            have := List.findIdx_getElem (w := (by rw [h3]; exact hlt : ps.findIdx f < ps.length))
            simp only [h3] at this
            rw [← HPE.out, HQ.out] at this
            cases this
        case measure => simp [intOf]; omega
      · have hI : ps.findIdx f = k := by
          have h1 : ps.findIdx f ≤ k := by
            rcases Nat.lt_or_ge k (ps.findIdx f) with h2 | h2
            · have := List.not_of_lt_findIdx h2
              rw [← HPE.out, HQ.out] at this
              simp at this
            · exact h2
          have h2 := HF.out
          omega
        have HI := Lib.hid (show idxI f ps = (k : Int) by rw [idxI, if_pos (by omega), hI])
        have HJ := Lib.hid (show idxN f ps = k + 1 by rw [idxN, if_pos (by omega), hI])
        clear hI
        go_wp2
        go_ret
        exact ⟨by rw [HI.out]; rfl, by rw [HJ.out]; exact HS2.out, HB2.out⟩
    · obtain rfl : k = ps.length := by omega
      have HI := Lib.hid (show idxI f ps = -1 by rw [idxI, if_neg (by omega)])
      have HJ := Lib.hid (show idxN f ps = ps.length by rw [idxN, if_neg (by omega)])
      have HB := Lib.hid hbel
      have HS2 := Lib.hid hst
      clear hbel hst hf
      go_wp2
      go_ret
      exact ⟨by rw [HI.out]; rfl, by rw [HJ.out]; exact HS2.out, HB.out⟩

set_option maxHeartbeats 1000000 in
theorem deleteF_any {σ : Type} {B : Nat} {cb cc : Nat} {f : Wt → Bool} {step : σ → Wt → σ} {S : Nat → σ → World → Prop} (H : Clos B 30 (fun u => #[u, .pointer (some ⟨cb, 0, none⟩), .pointer (some ⟨cc, 0, none⟩)]) f step S) (s0 : σ) (ad : Option Addr) (c : Nat)
    (h : w.ownsRow base 31 3 (.slice ad ps.length c) ps.length (cellsOf ps)) (hB : B ≤ w.heap.size) (hg : ∀ g, (Value.slice ad ps.length c).ownBlock = some g → g < B) (hS : S 0 s0 w) (hM : ps.length ≤ 1000) :
    Calls Tryd.prog 29 #[.slice ad ps.length c, .func (.func 30) #[] #[.pointer (some ⟨cb, 0, none⟩), .pointer (some ⟨cc, 0, none⟩)]] w fun e w' => ∃ v', e = .returned v' ∧ w'.ownsRow base 31 3 v' (ps.filter fun p => !f p).length (cellsOf (ps.filter fun p => !f p)) ∧
      v'.ownBlock = (Value.slice ad ps.length c).ownBlock ∧ S ps.length (ps.foldl step s0) w' ∧ Touch (fun i => (Value.slice ad ps.length c).ownBlock = some i ∨ B ≤ i) w w' := by
  have C0 := Lib.hid (indexF_any H s0 ad c h hB hg hS hM)
  have HO := Lib.hid h
  have HCL := Lib.hid H
  have HGB := Lib.hid hg
  clear h H hg hS
  by_cases hf : ps.findIdx f < ps.length
  · have hI : idxI f ps = (ps.findIdx f : Int) := by rw [idxI, if_pos hf]
    have hJ : idxN f ps = ps.findIdx f + 1 := by rw [idxN, if_pos hf]
    rw [hI, hJ] at C0
    obtain ⟨k, hk⟩ : ∃ k, k = ps.findIdx f := ⟨_, rfl⟩
    have HK0 := Lib.hid (kept_start _ _ hf)
    rw [← hk] at C0 hf HK0
    obtain ⟨g, cap, he, hcm⟩ : ∃ g cap, (Value.slice ad ps.length c) = .slice (some ⟨g, 0, none⟩) ps.length cap ∧ ps.length ≤ cap ∧ cap ≤ maxLen := by
      rcases HO.out.2 with ⟨h0, h1⟩ | ⟨g, cap, cur, he, _, _, h1, h2, _⟩
      · omega
      · exact ⟨g, cap, he, h1, h2⟩
    obtain ⟨rfl, rfl⟩ : ad = some ⟨g, 0, none⟩ ∧ c = cap := by simpa using he
    have hgB : g < B := HGB.out g rfl
    have hne : ((k : Int) == -1) = false := by simp
    have hcap := hcm.1
    have hcm2 : c ≤ 9223372036854775807 := by have := hcm.2; unfold maxLen at this; omega
    clear he hI hcm hJ
    have HK := Lib.hid hk
    clear hk
    go_enter Tryd.func29, Tryd.ntmps29
    go_wp2_with fail
    refine C0.out.mono ?_
    rintro e w1 ⟨rfl, st1, b1⟩
    have HM1 := Lib.hid (Mid.start (own_stays HO.out (w' := w1) (fun j hj => b1.block j (HGB.out j hj))) k (by omega))
    have HB1 := Lib.hid b1
    have HS1 := Lib.hid st1
    clear b1 C0 st1
    go_wp2
    go_loopw [5, 6] (fun i j wr => ∃ t : Nat, i = .int .i64 (((ps.take t).filter fun p => !f p).length : Nat) ∧ j = .int .i64 (t : Nat) ∧ k < t ∧ t ≤ ps.length ∧ Mid wr g c ps ((ps.take t).filter fun p => !f p) t ∧ S t ((ps.take t).foldl step s0) wr ∧ Touch (fun i => i = g ∨ B ≤ i) w wr) (fun _ j _ => ps.length - (intOf j).toNat)
    case atStart =>
      refine ⟨k + 1, ?_, by go_num, by omega, by omega, ?_, HS1.out, Touch.of_bel HB1.out⟩
      · rw [HK0.out, List.length_take, Nat.min_eq_left (by omega)]
      · rw [HK0.out]; exact HM1.out
    case round =>
      obtain ⟨t, rfl, rfl, hkt, ht, hMid, hst, hgr⟩ := hrel
      obtain ⟨kept, hkept⟩ : ∃ kept, kept = (ps.take t).filter fun p => !f p := ⟨_, rfl⟩
      rw [← hkept] at hMid ⊢
      obtain ⟨l, hl⟩ : ∃ l, l = kept.length := ⟨_, rfl⟩
      have hlk : kept.length < t := by
        rw [hkept]
        have h1 := HK0.out
        have h2 : (ps.take t).filter (fun p => !f p) = (ps.take k) ++ ((ps.take t).drop (k + 1)).filter (fun p => !f p) := by
          rw [← h1, show ps.take (k + 1) = (ps.take t).take (k + 1) by rw [List.take_take, Nat.min_eq_left (by omega)], ← List.filter_append, List.take_append_drop]
        rw [h2, List.length_append, List.length_take]
        have := List.length_filter_le (fun p => !f p) ((ps.take t).drop (k + 1))
        rw [List.length_drop, List.length_take] at this
        omega
      rw [← hl] at hlk ⊢
      have HMid := Lib.hid hMid
      have HKE := Lib.hid hkept
      have HL := Lib.hid hl
      have HG := Lib.hid hgr
      have HST := Lib.hid hst
      have hgl := hMid.lt
      have hBr : B ≤ wr.heap.size := Nat.le_trans hB hgr.size
      clear hMid hkept hl hgr hst
      by_cases hlt : t < ps.length
      · obtain ⟨p, hpe⟩ : ∃ p, p = ps[t] := ⟨_, rfl⟩
        have hp : ps[t]? = some p := by rw [hpe]; exact List.getElem?_eq_getElem hlt
        obtain ⟨d0, d1, d2⟩ := HMid.out.load p hp
        obtain ⟨q, hq⟩ : ∃ q, f p = q := ⟨_, rfl⟩
        have C1 := Lib.hid (HCL.out.call t _ p wr (wr.alloc (.cells #[.int .i64 p.1, .string p.2.1, .bool p.2.2] 31)) (by omega) hBr HST.out (by simp) (fun i _ hi => Below.heap_alloc wr _ i hi))
        rw [hq, ← fold_snoc step s0 ps t p hp] at C1
        have HX := Lib.hid (Box.new wr 31 #[.int .i64 p.1, .string p.2.1, .bool p.2.2])
        have HQ := Lib.hid hq
        have HS := Lib.hid (kept_snoc (fun p => !f p) ps t p hp)
        dsimp only [tv] at C1
        clear hpe hp hq
        go_wp2_with fail
        refine C1.out.mono ?_
        rintro e w2 ⟨rfl, st2, b2, n2⟩
        have HX2 := Lib.hid (show Box w2 wr.heap.size 31 #[.int .i64 p.1, .string p.2.1, .bool p.2.2] from (n2 wr.heap.size (Nat.le_refl _) (by simp)).trans HX.out)
        have hx2 : w2.heap.size > wr.heap.size := by have h1 := b2.size; simp at h1; omega
        have HM2 := Lib.hid (HMid.out.stay (w' := w2) ((b2.block g hgB).trans (Below.heap_alloc wr _ g hgl)))
        have HG2 := Lib.hid (HG.out.trans ((Touch.alloc (Touch.refl _ wr) (.cells #[.int .i64 p.1, .string p.2.1, .bool p.2.2] 31)).trans (Touch.of_bel (g := g) b2)))
        have HST2 := Lib.hid st2
        clear C1 b2 d0 d1 d2 st2 n2
        cases q
        · have e0 : w2.cell? ⟨wr.heap.size, 0, none⟩ = some (.int .i64 p.1) := HX2.out.cell 0
          have e1 : w2.cell? ⟨wr.heap.size, 1, none⟩ = some (.string p.2.1) := HX2.out.cell 1
          have e2 : w2.cell? ⟨wr.heap.size, 2, none⟩ = some (.bool p.2.2) := HX2.out.cell 2
          obtain ⟨u0, g0⟩ := HM2.out.some (l * 3) (by omega)
          obtain ⟨u1, g1⟩ := HM2.out.some (l * 3 + 1) (by omega)
          obtain ⟨u2, g2⟩ := HM2.out.some (l * 3 + 2) (by omega)
          have f0 := HM2.out.frozen (l * 3)
          have f1 := HM2.out.frozen (l * 3 + 1)
          have f2 := HM2.out.frozen (l * 3 + 2)
          have hlen1 : (l : Int) < (ps.length : Int) := by omega
          have hlen2 : (l : Int) < 3000 := by omega
          go_wp2
          go_roundw
          case rel =>
            have hk2 : (ps.take (t + 1)).filter (fun p => !f p) = kept ++ [p] := by
              have h1 := HS.out
              have h2 := HQ.out
              simp only [h2, Bool.not_false, if_true] at h1
              rw [h1, ← HKE.out]
            refine ⟨t + 1, ?_, by go_num, by omega, by omega, ?_, ?_, ?_⟩
            · rw [hk2, List.length_append, ← HL.out]; go_num
            · rw [hk2]
              have := (HM2.out.store p (by have := HL.out; omega) (by have := HL.out; omega)).skip
              rw [← HL.out] at this
              exact this
            · exact HCL.out.stay _ _ w2 _ HST2.out (by simp [World.setCell]) (fun i hi _ => by rw [Below.heap_setCell _ _ _ _ (by show i ≠ g; omega), Below.heap_setCell _ _ _ _ (by show i ≠ g; omega), Below.heap_setCell _ _ _ _ (by show i ≠ g; omega)])
            · exact ((HG2.out.setCell (.inl rfl) _).setCell (.inl rfl) _).setCell (.inl rfl) _
          case measure => simp [intOf]; omega
        · go_wp2
          go_roundw
          case rel =>
            have hk2 : (ps.take (t + 1)).filter (fun p => !f p) = kept := by
              have h1 := HS.out
              have h2 := HQ.out
              simp only [h2, Bool.not_true, Bool.false_eq_true, if_false, List.append_nil] at h1
              rw [h1, ← HKE.out]
            refine ⟨t + 1, ?_, by go_num, by omega, by omega, ?_, HST2.out, HG2.out⟩
            · rw [hk2, ← HL.out]
            · rw [hk2]; exact HM2.out.skip
          case measure => simp [intOf]; omega
      · obtain rfl : t = ps.length := by omega
        obtain ⟨i0, hi, hz0, hz1, hz2⟩ := info_parts row31
        have hz : i0.zero = some zeroWt := hz0
        obtain ⟨cur, hbox, hcs, hpre, _⟩ := HMid.out
        have HBX := Lib.hid (show wr.heap[g]? = some (.cells cur 31 (0, 0)) from hbox)
        have HCS := Lib.hid hcs
        have HPR := Lib.hid hpre
        clear hz0 hbox hcs hpre
        have s1 : ∀ w : World, (Instr.sliceAt 46 (.slice (some ⟨g, 0, none⟩) ps.length c) (some (.int .i64 (l : Int))) none none).run Tryd.prog w = .ok (.slice (some ⟨g, l * 3, none⟩) (ps.length - l) (c - l)) w := fun w => by
          have := cut_l elem46 size46 g 0 ps.length c w l (by omega)
          rwa [if_neg (by omega), Nat.zero_add] at this
        have s2 : ∀ w : World, (Instr.sliceAt 46 (.slice (some ⟨g, 0, none⟩) ps.length c) none (some (.int .i64 (l : Int))) none).run Tryd.prog w = .ok (.slice (some ⟨g, 0, none⟩) l c) w :=
          fun w => cut_h elem46 size46 g 0 ps.length c w l (by omega)
        have HFIT := Lib.hid (show l * 3 + (ps.length - l) * 3 ≤ cur.size by have := HCS.out; omega)
        go_wp2_with (with_reducible refine wpList_clear_row rfl (.tmp 38) 46 rfl 31 i0 zeroWt Tryd.underlying46 hi hz zero_one 3 (by omega) rfl g (l * 3) (ps.length - l) _ cur HBX.out rfl HFIT.out ?_; intro new2 hn2)
        go_ret
        have hfin : ps.filter (fun p => !f p) = kept := by have := HKE.out; rw [List.take_length] at this; exact this.symm
        have HST9 := HST.out
        rw [List.take_length] at HST9
        refine ⟨_, rfl, ?_, rfl, HCL.out.stay _ _ wr _ HST9 (by simp) (fun i hi _ => Go.setRow_other _ g i new2 (by omega)), (HG.out.setRow (.inl (.inl rfl)) new2).mono (fun i _ hi => hi.imp (fun e => by rw [e]; rfl) id)⟩
        rw [hfin, ← HL.out]
        rcases HO.out.2 with ⟨h0, h1⟩ | ⟨g', cap', cur', he, hbg, _, h1, h2, _⟩
        · cases h0
        · obtain ⟨rfl, rfl⟩ : g = g' ∧ c = cap' := by simpa using he
          refine own_setRow HBX.out hbg (by omega) h2 (by rw [hn2.out.1, HCS.out]) (by rw [cells_len, ← HL.out]) ?_
          rw [hn2.out.2]
          apply List.ext_getElem?
          intro j
          rcases Nat.lt_or_ge j (l * 3) with hj | hj
          · rw [List.getElem?_take_of_lt hj, Array.getElem?_toList]
            exact HPR.out j (by have := HL.out; omega)
          · rw [List.getElem?_eq_none (by rw [List.length_take]; omega), List.getElem?_eq_none (by rw [cells_len, ← HL.out]; exact hj)]
  · have hI : idxI f ps = -1 := by rw [idxI, if_neg hf]
    have hJ : idxN f ps = ps.length := by rw [idxN, if_neg hf]
    rw [hI, hJ, List.take_length] at C0
    have HK := Lib.hid (kept_none _ _ hf)
    clear hI hf hJ
    go_enter Tryd.func29, Tryd.ntmps29
    go_wp2_with fail
    refine C0.out.mono ?_
    rintro e w1 ⟨rfl, st1, b1⟩
    have HS1 := Lib.hid st1
    have HB1 := Lib.hid b1
    clear st1 b1
    go_wp2
    go_ret
    refine ⟨_, rfl, ?_, rfl, HS1.out, ⟨HB1.out.os, HB1.out.tape, HB1.out.output, HB1.out.size, fun i _ hn => HB1.out.block i (by omega)⟩⟩
    rw [HK.out]
    exact own_stays HO.out (fun j hj => HB1.out.block j (HGB.out j hj))
end Go.Proofs.YtmcjpochpmiipaaDoor
