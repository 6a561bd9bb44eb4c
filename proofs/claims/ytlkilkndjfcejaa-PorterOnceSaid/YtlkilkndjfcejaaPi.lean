/- porter: New. Conditions: the servers' numbers lie in memory. -/
import Derived.Test.YtlkilkndjfcejaaPh
import Derived.Deep.OwnRows
import Derived.Deep.RegionWith
namespace Go.Proofs.Ytlkilkndjfcejaa
open Go Go.RowKit
set_option linter.unusedVariables false
set_option linter.unusedSimpArgs false
variable {w w' : World} {base n : Nat} {V V' : Vs} {s s' : St}

theorem Ints.below {k : IntKind} {a : Option Addr} {len : Nat} {zs : List Int} (h : Ints k w a len zs) (hb : Below w.heap.size w w') : Ints k w' a len zs := by
  refine ⟨h.1, h.2.1, h.2.2.1, h.2.2.2.imp id ?_⟩
  rintro ⟨b, off, rfl, hc⟩
  refine ⟨b, off, rfl, fun i hi => ?_⟩
  have h0 := hc i hi
  have hl := World.block_lt_of_cell? _ _ h0
  exact (hb.cell (p := ⟨b, off + i, none⟩) hl).trans h0
theorem Ints.at_ {k : IntKind} {a : Option Addr} {len : Nat} {zs : List Int} (h : Ints k w a len zs) (i : Nat) (z : Int) (hz : zs[i]? = some z) : ∃ b off, a = some ⟨b, off, none⟩ ∧ b < w.heap.size ∧ w.cell? ⟨b, off + i, none⟩ = some (.int k z) := by
  have hi := (List.getElem?_eq_some_iff.1 hz).1
  rw [h.1] at hi
  rcases h.2.2.2 with h0 | ⟨b, off, rfl, hc⟩
  · omega
  · have h0 := hc i hi
    rw [List.getD_eq_getElem?_getD, hz] at h0
    exact ⟨b, off, rfl, World.block_lt_of_cell? _ _ h0, h0⟩
def badB (z : Int) : Bool := decide (z < 1) || decide (7 < z)
theorem bad_any (z : Int) : Calls Try.prog 26 #[.int .i64 z] w fun e w' => e = .returned (.bool (badB z)) ∧ w = w' := by
  unfold badB
  by_cases h0 : z < 1
  · rw [decide_eq_true h0]
    go_enter Try.func26, Try.ntmps26
    go_wp2
    go_ret
    exact ⟨rfl, rfl⟩
  · rw [decide_eq_false h0]
    go_enter Try.func26, Try.ntmps26
    go_wp2
    go_ret
    exact ⟨rfl, rfl⟩
def idxI (f : Int → Bool) (l : List Int) : Int := if l.findIdx f < l.length then (l.findIdx f : Int) else -1
theorem index_any (a : Option Addr) (len cap : Nat) (zs : List Int) (h : Ints .i64 w a len zs) (hl : len ≤ 20) :
    Calls Try.prog 40 #[.slice a len cap, .func (.func 26) #[] #[]] w fun e w' => e = .returned (.int .i64 (idxI badB zs)) ∧ Below w.heap.size w w' := by
  have HO := Lib.hid h
  have hzl := h.1
  clear h
  go_enter Try.func40, Try.ntmps40
  go_wp2
  go_loopw [8] (fun i wr => ∃ k : Nat, k ≤ len ∧ i = .int .i64 k ∧ k ≤ zs.findIdx badB ∧ Below w.heap.size w wr) (fun i _ => len - (intOf i).toNat)
  case atStart => exact ⟨0, Nat.zero_le _, rfl, Nat.zero_le _, Below.refl _ _⟩
  case round =>
    obtain ⟨k, hk, rfl, hf, hbel⟩ := hrel
    by_cases hlt : k < len
    · obtain ⟨p, hp⟩ : ∃ p, zs[k]? = some p := ⟨_, List.getElem?_eq_getElem (by omega)⟩
      obtain ⟨b, off, rfl, hg, d0⟩ := (HO.out.below hbel).at_ k p hp
      obtain ⟨q, hq⟩ : ∃ q, badB p = q := ⟨_, rfl⟩
      have C1 := Lib.hid (bad_any (w := wr) p)
      rw [hq] at C1
      have HQ := Lib.hid hq
      have HP := Lib.hid hp
      have HF := Lib.hid hf
      have HB := Lib.hid hbel
      clear hq hp hf hbel
      go_wp2_with fail
      refine C1.out.mono ?_
      rintro e w2 ⟨rfl, rfl⟩
      clear C1 d0
      cases q
      · go_wp2
        go_roundw
        case rel =>
          refine ⟨k + 1, by omega, by go_num, ?_, HB.out⟩
          have h1 := HF.out
          have hpe := (List.getElem?_eq_some_iff.1 HP.out).2
          rcases Nat.lt_or_ge k (zs.findIdx badB) with h2 | h2
          · omega
          · exfalso
            have h3 : zs.findIdx badB = k := by omega
            have := List.findIdx_getElem (w := (by rw [h3]; omega : zs.findIdx badB < zs.length))
            simp only [h3] at this
            rw [hpe, HQ.out] at this
            cases this
        case measure => simp [intOf]; omega
      · have hI : idxI badB zs = (k : Int) := by
          have hpe := (List.getElem?_eq_some_iff.1 HP.out).2
          have h1 : zs.findIdx badB ≤ k := by
            rcases Nat.lt_or_ge k (zs.findIdx badB) with h2 | h2
            · have := List.not_of_lt_findIdx h2
              rw [hpe, HQ.out] at this
              simp at this
            · exact h2
          have h2 := HF.out
          rw [idxI, if_pos (by omega)]
          omega
        have HI := Lib.hid hI
        clear hI
        go_wp2
        go_ret
        exact ⟨by rw [HI.out]; rfl, HB.out⟩
    · have hI : idxI badB zs = -1 := by rw [idxI, if_neg (by omega)]
      have HI := Lib.hid hI
      clear hI hf
      have HB := Lib.hid hbel
      clear hbel
      go_wp2
      go_ret
      exact ⟨by rw [HI.out]; rfl, HB.out⟩
theorem contains_any (a : Option Addr) (len cap : Nat) (zs : List Int) (h : Ints .i64 w a len zs) (hl : len ≤ 20) :
    Calls Try.prog 27 #[.slice a len cap, .func (.func 26) #[] #[]] w fun e w' => e = .returned (.bool (zs.any badB)) ∧ Below w.heap.size w w' := by
  have C1 := Lib.hid (index_any a len cap zs h hl)
  obtain ⟨r, hr⟩ : ∃ r, r = idxI badB zs := ⟨_, rfl⟩
  have hany : zs.any badB = decide (0 ≤ r) := by
    rw [hr, idxI, Bool.eq_iff_iff, decide_eq_true_eq, List.any_eq_true]
    constructor
    · rintro ⟨x, hx, hb⟩
      have := List.findIdx_lt_length_of_exists ⟨x, hx, hb⟩
      rw [if_pos this]; omega
    · intro h0
      split at h0
      · rename_i h1
        exact ⟨_, List.getElem_mem h1, List.findIdx_getElem⟩
      · omega
  rw [hany]
  rw [← hr] at C1
  clear hany hr h
  go_enter Try.func27, Try.ntmps27
  go_wp2_with fail
  refine C1.out.mono ?_
  rintro e w1 ⟨rfl, b1⟩
  go_wp2
  go_ret
  exact ⟨rfl, b1⟩
theorem row3 : (Try.prog.info? 3).map (fun i => (i.zero, i.size, i.bytes)) = some (some (.int .i64 0), 1, 8) := by kernel_rfl
theorem ints_src {a : Option Addr} {len : Nat} {zs : List Int} (h : Ints .i64 w a len zs) : Src w a len 1 (zs.map iv) := by
  refine ⟨by simp [h.1], by simp [iv, Value.oneCell'], h.2.2.2.imp id ?_⟩
  rintro ⟨b, off, rfl, hc⟩
  refine ⟨_, rfl, fun j u hu => ?_⟩
  rw [List.getElem?_map] at hu
  obtain ⟨z, hz, rfl⟩ := Option.map_eq_some_iff.1 hu
  have hj := (List.getElem?_eq_some_iff.1 hz).1
  have := hc j (by rw [h.1] at hj; exact hj)
  rw [Addr.add_lit, this, List.getD_eq_getElem?_getD, hz]; rfl
theorem some_ne22 (x : Addr) (len cap : Nat) (w : World) : (binOp .eql 22 (.slice (some x) len cap) (.slice none 0 0)).run Try.prog w = .ok (.bool false) w := by kernel_rfl
set_option maxHeartbeats 4000000 in
theorem clone_any (x : Addr) (len cap : Nat) (zs : List Int) (h : Ints .i64 w (some x) len zs) (hl : len ≤ 20) :
    Calls Try.prog 28 #[.slice (some x) len cap] w fun e w' => ∃ v, e = .returned v ∧ w'.ownsRow w.heap.size 3 1 v zs.length (zs.map iv) ∧ Below w.heap.size w w' := by
  obtain ⟨i0, hi, hz0, hz1, hz2⟩ := info_parts row3
  have HS := Lib.hid (ints_src (h.below ((Below.refl w.heap.size w).alloc (Nat.le_refl _) (.cells #[] 3))))
  have hzl := h.1
  have he := some_ne22 x len cap
  have HO := Lib.hid (World.ownsRow_lit (base := w.heap.size) (e := 3) (size := 1) w #[] 0 (Nat.le_refl _) (by decide) rfl)
  have HI := Lib.hid hi
  have HZ := Lib.hid hz0
  clear h hi hz0
  go_enter Try.func28, Try.ntmps28
  go_wp2_with (at_builtin; refine wpList_append_src rfl (.tmp 5) (.tmp 6) 22 rfl w.heap.size 3 i0 (.int .i64 0) 1 8 Try.underlying22 HI.out HZ.out hz1 hz2 rfl (by decide) _ _ _ rfl HO.out _ _ _ _ rfl HS.out ?c2 ?c3 (by simp) ?_)
  case c2 => unfold maxLen; omega
  case c3 => omega
  intro v' w' own' g'
  have B' := ((Below.refl w.heap.size w).alloc (Nat.le_refl _) (.cells #[] 3)).grown g' (by simp) (own_ge HO.out)
  have HO' := Lib.hid (show w'.ownsRow w.heap.size 3 1 v' zs.length (zs.map iv) by rw [hzl]; simpa using own')
  clear own' g'
  go_wp2
  go_ret
  exact ⟨v', rfl, HO'.out, B'⟩
def zr (c : Nat) : Array Value := ((List.replicate c (0 : Int)).map iv).toArray
theorem mk_int (c : Nat) (hc : c ≤ 20) (w : World) : (Instr.makeSlice 22 (.int .i64 (c : Int)) (.int .i64 (c : Int))).run Try.prog w = .ok (.slice (some ⟨w.heap.size, 0, none⟩) c c) (w.alloc (.cells (zr c) 3)) := by
  have h := run_make_row' (P := Try.prog) 22 3 (.int .i64 0) 8 Try.underlying22 (by kernel_rfl) rfl .i64 .i64 c (by omega) (by omega) w
  have e : madeCells #[.int .i64 0] c = zr c := by
    apply Array.ext
    · simp [madeCells, zr]
    · intro i h1 h2
      simp [madeCells, zr, iv, Nat.mod_one]
  rw [h, e]
def zeroCl : Cl := ⟨0, 0, 0, 0, 0, 0, 0, ⟨#[]⟩, ⟨#[]⟩, 0, 0, 0, ⟨#[]⟩, false, 0, 0, 0, ⟨#[]⟩⟩
def newS (cl : Int) (zs : List Int) (pa : Int) : St := ⟨cl, pa, zs, List.replicate zs.length 0, 0, false, 0, zeroCl, 0, 0, [], []⟩
def newB (cl : Int) (zs : List Int) (pa : Int) : Bool := decide (1 ≤ cl) && decide (cl ≤ 1000000) && decide (1 ≤ zs.length) && decide (zs.length ≤ 20) && !zs.any badB && decide (1 ≤ pa) && decide (pa ≤ 1000)
theorem newS_ok (cl : Int) (zs : List Int) (pa : Int) (h : newB cl zs pa = true) : Okay (newS cl zs pa) := by
  simp only [newB, Bool.and_eq_true, decide_eq_true_eq, Bool.not_eq_true'] at h
  obtain ⟨⟨⟨⟨⟨⟨h1, h2⟩, h3⟩, h4⟩, h5⟩, h6⟩, h7⟩ := h
  have hm : ∀ (i : Nat) (m : Int), zs[i]? = some m → 1 ≤ m ∧ m ≤ 7 := by
    intro i m hi
    have := List.any_eq_false.1 h5 m (List.mem_of_getElem? hi)
    simp only [badB, Bool.or_eq_true, decide_eq_true_eq, not_or] at this
    omega
  refine ⟨⟨by simp [newS], h4, h3, hm, fun i m g hm' hg => ?_, by simp [newS], by simp [newS], by simp [newS], by simp [newS]; omega, by simp [newS]; omega, h7, by simp [newS], by simp [newS], by simp [newS]⟩, fun e => by cases e⟩
  have hg2 : (List.replicate zs.length (0 : Int))[i]? = some g := hg
  rw [List.getElem?_replicate] at hg2
  split at hg2
  · obtain rfl : (0 : Int) = g := by simpa using hg2
    have := hm i m hm'
    omega
  · cases hg2

theorem zr_row (w : World) (c : Nat) (hc : c ≤ 20) (b : Nat) (hb : b ≤ w.heap.size) : (w.alloc (.cells (zr c) 3)).ownsRow b 3 1 (.slice (some ⟨w.heap.size, 0, none⟩) c c) (List.replicate c (0 : Int)).length ((List.replicate c (0 : Int)).map iv) := by
  have := World.ownsRow_lit (base := b) (e := 3) (size := 1) w (zr c) c hb (by unfold maxLen; omega) (by simp [zr])
  rw [List.length_replicate]
  simpa [zr] using this
theorem own_base' {e size n : Nat} {v : Value} {xs : List Value} {b b' : Nat} (h : w.ownsRow b e size v n xs) (hb : b' ≤ b) : w.ownsRow b' e size v n xs := own_base h fun k hk => Nat.le_trans hb (own_ge h k hk)
/-- the end of New: a copy, a row of zeros, the box. -/
theorem new_fin {W w1 : World} {cl pa : Int} {zs : List Int} {v g : Value} (hv : w1.ownsRow W.heap.size 3 1 v zs.length (zs.map iv)) (hg : w1.ownsRow W.heap.size 3 1 g (List.replicate zs.length (0 : Int)).length ((List.replicate zs.length (0 : Int)).map iv))
    (hd : ∀ k, v.ownBlock = some k → g.ownBlock ≠ some k) (hb : Below W.heap.size W w1) : Pt (w1.alloc (.cells (pcs (newS cl zs pa) ⟨v, g, .slice none 0 0, .slice none 0 0⟩) 98)) W.heap.size w1.heap.size ⟨v, g, .slice none 0 0, .slice none 0 0⟩ (newS cl zs pa) ∧ Below W.heap.size W (w1.alloc (.cells (pcs (newS cl zs pa) ⟨v, g, .slice none 0 0, .slice none 0 0⟩) 98)) :=
  ⟨⟨Box.new w1 98 _, own_stays hv (fun k hk => Below.heap_alloc _ _ _ (own_lt hv k hk)), own_stays hg (fun k hk => Below.heap_alloc _ _ _ (own_lt hg k hk)), World.ownsRow_nil _ _ _ _, World.ownsRow_nil _ _ _ _, hd, hb.size⟩, hb.alloc hb.size _⟩
def NewPost (W : World) (cl : Int) (zs : List Int) (pa : Int) (e : Ending) (w' : World) : Prop :=
  ∃ n V, e = .returned (.tuple #[.pointer (some ⟨n, 0, none⟩), .int .i64 0]) ∧ Pt w' W.heap.size n V (newS cl zs pa) ∧ Below W.heap.size W w'
theorem new_a {W w1 w2 : World} {cl pa : Int} {zs : List Int} {ad : Option Addr} {c : Nat} (hz : zs.length ≤ 20) (hB : Below W.heap.size W w1) (own2 : w2.ownsRow w1.heap.size 3 1 (.slice ad zs.length c) zs.length (zs.map iv)) (b2 : Below w1.heap.size w1 w2) :
    NewPost W cl zs pa (.returned (.tuple #[.pointer (some ⟨w2.heap.size + 1, 0, none⟩), .int .i64 0])) ((w2.alloc (.cells (zr zs.length) 3)).alloc (.cells (pcs (newS cl zs pa) ⟨.slice ad zs.length c, .slice (some ⟨w2.heap.size, 0, none⟩) zs.length zs.length, .slice none 0 0, .slice none 0 0⟩) 98)) := by
  have hs := Nat.le_trans hB.size b2.size
  have key := new_fin (W := W) (w1 := w2.alloc (.cells (zr zs.length) 3)) (cl := cl) (pa := pa) (own_base' (own_stays own2 (fun k hk => Below.heap_alloc _ _ _ (own_lt own2 k hk))) hB.size) (zr_row w2 zs.length hz W.heap.size hs)
    (fun k hk he => by have h1 := own_lt own2 k hk; have h2 : w2.heap.size = k := Option.some.inj he; omega) ((hB.trans (b2.mono hB.size)).alloc hs _)
  rw [World.size_alloc] at key
  exact ⟨_, _, rfl, key.1, key.2⟩
theorem new_b {W w1 w2 : World} {cl pa : Int} {zs : List Int} {ad : Option Addr} {c : Nat} (hz : zs.length ≤ 20) (hB : Below W.heap.size W w1) (own2 : w2.ownsRow (w1.alloc (.cells (zr zs.length) 3)).heap.size 3 1 (.slice ad zs.length c) zs.length (zs.map iv)) (b2 : Below (w1.alloc (.cells (zr zs.length) 3)).heap.size (w1.alloc (.cells (zr zs.length) 3)) w2) :
    NewPost W cl zs pa (.returned (.tuple #[.pointer (some ⟨w2.heap.size, 0, none⟩), .int .i64 0])) (w2.alloc (.cells (pcs (newS cl zs pa) ⟨.slice ad zs.length c, .slice (some ⟨w1.heap.size, 0, none⟩) zs.length zs.length, .slice none 0 0, .slice none 0 0⟩) 98)) := by
  have hs1 : (w1.alloc (.cells (zr zs.length) 3)).heap.size = w1.heap.size + 1 := World.size_alloc _ _
  have hs := hB.size
  have hz0 := zr_row w1 zs.length hz W.heap.size hs
  have key := new_fin (W := W) (w1 := w2) (cl := cl) (pa := pa) (own_base' own2 (by omega)) (own_stays hz0 (fun k hk => b2.block k (own_lt hz0 k hk)))
    (fun k hk he => by have h1 := own_ge own2 k hk; have h2 : w1.heap.size = k := Option.some.inj he; omega) ((hB.alloc hs _).trans (b2.mono (by omega)))
  exact ⟨_, _, rfl, key.1, key.2⟩
set_option maxHeartbeats 4000000 in
theorem new_yes (W : World) (cl pa : Int) (x : Addr) (len cap : Nat) (zs : List Int) (h : Ints .i64 W (some x) len zs) (hy : newB cl zs pa = true) :
    Calls Try.prog 7 #[.int .i64 cl, .slice (some x) len cap, .int .i64 pa] W (NewPost W cl zs pa) := by
  simp only [newB, Bool.and_eq_true, decide_eq_true_eq, Bool.not_eq_true'] at hy
  obtain ⟨⟨⟨⟨⟨⟨h1, h2⟩, h3⟩, h4⟩, h5⟩, h6⟩, h7⟩ := hy
  obtain rfl := h.1
  have C1 := Lib.hid (contains_any (some x) zs.length cap zs h (by omega))
  rw [h5] at C1
  have CL := Lib.hid (fun (w2 : World) (hb : Below W.heap.size W w2) => clone_any x zs.length cap zs (h.below hb) (by omega))
  have H0 := mk_int zs.length (by omega)
  have HL := Lib.hid h4
  have hlen1 : ¬ (zs.length : Int) < 1 := by omega
  have hlen2 : ¬ (20 : Int) < (zs.length : Int) := by omega
  have g1 : ¬ cl < 1 := by omega
  have g2 : ¬ 1000000 < cl := by omega
  have g6 : ¬ pa < 1 := by omega
  have g7 : ¬ 1000 < pa := by omega
  clear h h5 h1 h2 h3 h4 h6 h7
  go_enter Try.func7, Try.ntmps7
  go_wp2_with fail
  refine C1.out.mono ?_
  rintro e w1 ⟨rfl, b1⟩
  have B1 := Lib.hid b1
  clear b1 C1
  go_wp2_with fail
  go_region_with (go_at_call 28; refine (CL.out _ (by first | exact B1.out | exact B1.out.drew | exact (B1.out.drew.alloc B1.out.size _) | exact (B1.out.alloc B1.out.size _).drew)).mono ?_; rintro e w2 ⟨v, rfl, own2, b2⟩; obtain ⟨ad2, c2, rfl, _⟩ := own_shape own2)
  all_goals (go_wp2; go_ret2)
  · first | exact new_a (w1 := w1.drew) HL.out B1.out.drew own2 b2 | exact new_b (w1 := w1.drew) HL.out B1.out.drew own2 b2
  · first | exact new_a (w1 := w1.drew) HL.out B1.out.drew own2 b2 | exact new_b (w1 := w1.drew) HL.out B1.out.drew own2 b2
def newE (cl : Int) (zs : List Int) (pa : Int) : Ending := .returned (.tuple #[.pointer none, .int .i64 1])
theorem new_no (W : World) (cl pa : Int) (a : Option Addr) (len cap : Nat) (zs : List Int) (h : Ints .i64 W a len zs) (hy : newB cl zs pa = false) (hm : len ≤ maxLen) :
    Calls Try.prog 7 #[.int .i64 cl, .slice a len cap, .int .i64 pa] W fun e w' => e = .returned (.tuple #[.pointer none, .int .i64 1]) ∧ Below W.heap.size W w' := by
  obtain rfl := h.1
  unfold maxLen at hm
  by_cases h1 : cl < 1
  · clear h hy
    go_enter Try.func7, Try.ntmps7
    go_wp2
    go_ret2
    exact ⟨rfl, Below.refl _ _⟩
  by_cases h2 : 1000000 < cl
  · clear h hy
    go_enter Try.func7, Try.ntmps7
    go_wp2
    go_ret2
    exact ⟨rfl, Below.refl _ _⟩
  by_cases h3 : (zs.length : Int) < 1
  · clear h hy
    go_enter Try.func7, Try.ntmps7
    go_wp2
    go_ret2
    exact ⟨rfl, Below.refl _ _⟩
  by_cases h4 : (20 : Int) < (zs.length : Int)
  · clear h hy
    go_enter Try.func7, Try.ntmps7
    go_wp2
    go_ret2
    exact ⟨rfl, Below.refl _ _⟩
  have C1 := Lib.hid (contains_any a zs.length cap zs h (by omega))
  cases h5 : zs.any badB
  · rw [h5] at C1
    have hh : ¬ (1 ≤ pa ∧ pa ≤ 1000) := by
      rintro ⟨ha, hb⟩
      have : newB cl zs pa = true := by
        simp only [newB, h5, Bool.and_eq_true, decide_eq_true_eq, Bool.not_false]
        exact ⟨⟨⟨⟨⟨⟨by omega, by omega⟩, by omega⟩, by omega⟩, trivial⟩, by omega⟩, by omega⟩
      rw [hy] at this
      cases this
    clear h hy h5
    by_cases h6 : pa < 1
    · go_enter Try.func7, Try.ntmps7
      go_wp2_with fail
      refine C1.out.mono ?_
      rintro e w1 ⟨rfl, b1⟩
      go_wp2
      go_ret2
      exact ⟨rfl, b1⟩
    · have h7 : 1000 < pa := by omega
      go_enter Try.func7, Try.ntmps7
      go_wp2_with fail
      refine C1.out.mono ?_
      rintro e w1 ⟨rfl, b1⟩
      go_wp2
      go_ret2
      exact ⟨rfl, b1⟩
  · rw [h5] at C1
    clear h hy h5
    go_enter Try.func7, Try.ntmps7
    go_wp2_with fail
    refine C1.out.mono ?_
    rintro e w1 ⟨rfl, b1⟩
    go_wp2
    go_ret2
    exact ⟨rfl, b1⟩
end Go.Proofs.Ytlkilkndjfcejaa
