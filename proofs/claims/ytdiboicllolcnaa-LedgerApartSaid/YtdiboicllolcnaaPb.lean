/- platter: a disk; Many, Pending, Dead, Arm, may, dies. Conditions: the disk lies in the call's own memory. -/
import Derived.Test.YtdiboicllolcnaaPa
namespace Go.Proofs.Ytdiboicllolcnaa
open Go Go.RowKit
set_option linter.unusedVariables false
set_option linter.unusedSimpArgs false
variable {w w' : World} {base n : Nat}

structure Dk where
  now : List Sec
  firm : List Sec
  wait : List Wr
  armed : Int
  dead : Bool
structure Vs where
  n : Value
  f : Value
  w : Value
/-- the writes on sectors. -/
def laid (l : List Sec) (ws : List Wr) : List Sec := ws.foldl (fun l x => l.set x.1 x.2) l
/-- what holds of a disk. -/
structure Good (D : Dk) : Prop where
  fulln : Full D.now
  fullf : Full D.firm
  fullw : FullW D.wait
  same : D.firm.length = D.now.length
  many : D.now.length ≤ 65536
  lies : ∀ x ∈ D.wait, x.1 < D.now.length
  arm : 0 ≤ D.armed ∧ D.armed ≤ 9223372036854775807
  is : D.now = laid D.firm D.wait
structure Dsk (w : World) (base n : Nat) (V : Vs) (D : Dk) : Prop where
  box : Box w n 78 #[V.n, V.f, V.w, .int .i64 D.armed, .bool D.dead]
  rn : w.ownsRow base 81 64 V.n D.now.length (secCells D.now)
  rf : w.ownsRow base 81 64 V.f D.firm.length (secCells D.firm)
  rw : w.ownsRow base 83 65 V.w D.wait.length (wCells D.wait)
  hn : base ≤ n
  ne : ∀ k, V.n.ownBlock = some k → V.f.ownBlock ≠ some k
def Of (n : Nat) (V : Vs) (k : Nat) : Prop := k = n ∨ V.n.ownBlock = some k ∨ V.f.ownBlock = some k ∨ V.w.ownBlock = some k
variable {V V' V'' : Vs} {D : Dk}
theorem Dsk.nn (h : Dsk w base n V D) : V.n.ownBlock ≠ some n := own_box_ne h.rn h.box (by decide)
theorem Dsk.nf (h : Dsk w base n V D) : V.f.ownBlock ≠ some n := own_box_ne h.rf h.box (by decide)
theorem Dsk.nw (h : Dsk w base n V D) : V.w.ownBlock ≠ some n := own_box_ne h.rw h.box (by decide)
theorem own_own_ne {b1 b2 e e' s s' m m' : Nat} {v v' : Value} {xs xs' : List Value} (h : w.ownsRow b1 e s v m xs) (h' : w.ownsRow b2 e' s' v' m' xs') (hne : e ≠ e') (k : Nat) (hk : v.ownBlock = some k) : v'.ownBlock ≠ some k := by
  rcases h.2 with ⟨rfl, _⟩ | ⟨g, cap, cur, rfl, _, hg, _⟩
  · cases hk
  · rcases h'.2 with ⟨rfl, _⟩ | ⟨g', cap', cur', rfl, _, hg', _⟩
    · simp [Value.ownBlock]
    · intro he
      obtain rfl : g = k := by simpa [Value.ownBlock] using hk
      obtain rfl : g' = g := by simpa [Value.ownBlock] using he
      rw [hg] at hg'
      injection hg' with hg'
      injection hg' with _ ht
      exact hne ht
theorem Dsk.stays (h : Dsk w base n V D) (hk : ∀ k, k < w.heap.size → Of n V k → w'.heap[k]? = w.heap[k]?) : Dsk w' base n V D :=
  ⟨(hk n h.box.lt (.inl rfl)).trans h.box, own_stays h.rn (fun k hv => hk k (own_lt h.rn k hv) (.inr (.inl hv))), own_stays h.rf (fun k hv => hk k (own_lt h.rf k hv) (.inr (.inr (.inl hv)))),
    own_stays h.rw (fun k hv => hk k (own_lt h.rw k hv) (.inr (.inr (.inr hv)))), h.hn, h.ne⟩
theorem Dsk.below {B : Nat} (h : Dsk w base n V D) (hb : Below B w w') (hB : w.heap.size ≤ B) : Dsk w' base n V D := h.stays fun k hk _ => hb.block k (by omega)
theorem Dsk.bel (h : Dsk w base n V D) (hb : Below w.heap.size w w') : Dsk w' base n V D := h.below hb (Nat.le_refl _)
theorem Dsk.alloc (h : Dsk w base n V D) (o : Obj) : Dsk (w.alloc o) base n V D := h.stays fun k hk _ => Below.heap_alloc w o k hk
theorem Dsk.drew (h : Dsk w base n V D) : Dsk w.drew base n V D := h.stays fun _ _ _ => rfl
theorem Dsk.drewN (h : Dsk w base n V D) (j : Nat) : Dsk (w.drewN j) base n V D := h.stays fun _ _ _ => rfl
theorem Dsk.touch {S : Nat → Prop} (h : Dsk w base n V D) (ht : Touch S w w') (hd : ∀ k, S k → ¬ Of n V k) : Dsk w' base n V D := h.stays fun k hk ho => ht.block k hk (fun hs => hd k hs ho)
theorem Dsk.of_ge (h : Dsk w base n V D) : ∀ k, Of n V k → base ≤ k := by
  rintro k (rfl | hv | hv | hv)
  · exact h.hn
  · exact own_ge h.rn k hv
  · exact own_ge h.rf k hv
  · exact own_ge h.rw k hv
theorem Dsk.of_lt (h : Dsk w base n V D) : ∀ k, Of n V k → k < w.heap.size := by
  rintro k (rfl | hv | hv | hv)
  · exact h.box.lt
  · exact own_lt h.rn k hv
  · exact own_lt h.rf k hv
  · exact own_lt h.rw k hv
/-- a lower base serves. -/
theorem Dsk.rebase {b : Nat} (h : Dsk w base n V D) (hb : b ≤ base) : Dsk w b n V D :=
  ⟨h.box, own_base h.rn (fun k hk => Nat.le_trans hb (own_ge h.rn k hk)), own_base h.rf (fun k hk => Nat.le_trans hb (own_ge h.rf k hk)), own_base h.rw (fun k hk => Nat.le_trans hb (own_ge h.rw k hk)), Nat.le_trans hb h.hn, h.ne⟩
/-- what a call on a disk leaves. -/
structure Goes (w w' : World) (n : Nat) (V V' : Vs) : Prop where
  touch : Touch (Of n V) w w'
  lies : ∀ k, Of n V' k → Of n V k ∨ w.heap.size ≤ k
theorem Goes.refl (w : World) (n : Nat) (V : Vs) : Goes w w n V V := ⟨Touch.refl _ _, fun _ h => .inl h⟩
theorem Goes.of_below (h : Below w.heap.size w w') : Goes w w' n V V := ⟨Touch.of_below h, fun _ hk => .inl hk⟩
theorem Goes.trans {w'' : World} (h : Goes w w' n V V') (k : Goes w' w'' n V' V'') : Goes w w'' n V V'' := by
  refine ⟨⟨k.touch.os.trans h.touch.os, k.touch.tape.trans h.touch.tape, k.touch.output.trans h.touch.output, Nat.le_trans h.touch.size k.touch.size, fun i hi hn => ?_⟩, fun i hv => ?_⟩
  · refine (k.touch.block i (Nat.lt_of_lt_of_le hi h.touch.size) (fun ho => ?_)).trans (h.touch.block i hi hn)
    rcases h.lies i ho with h1 | h1
    · exact hn h1
    · omega
  · rcases k.lies i hv with h1 | h1
    · exact h.lies i h1
    · exact .inr (Nat.le_trans h.touch.size h1)
theorem Goes.below {B : Nat} {w0 : World} (h : Goes w w' n V V') (hb : Below B w0 w) (hB : B ≤ w0.heap.size) (hg : ∀ k, Of n V k → B ≤ k) : Below B w0 w' := by
  refine hb.trans ⟨h.touch.os, h.touch.tape, h.touch.output, h.touch.size, fun i hi => ?_⟩
  have hs := hb.size
  exact h.touch.block i (by omega) (fun ho => by have := hg i ho; omega)

theorem Dsk.cells (h : Dsk w base n V D) : w.cell? ⟨n, 0, none⟩ = some V.n ∧ w.cell? ⟨n, 1, none⟩ = some V.f ∧ w.cell? ⟨n, 2, none⟩ = some V.w ∧ w.cell? ⟨n, 3, none⟩ = some (.int .i64 D.armed) ∧ w.cell? ⟨n, 4, none⟩ = some (.bool D.dead) :=
  ⟨h.box.cell 0, h.box.cell 1, h.box.cell 2, h.box.cell 3, h.box.cell 4⟩
/-- the box alone is turned. -/
theorem Dsk.setBox (h : Dsk w base n V D) {D' : Dk} (hb : Box w' n 78 #[V.n, V.f, V.w, .int .i64 D'.armed, .bool D'.dead]) (ht : Touch (· = n) w w') (h1 : D'.now = D.now) (h2 : D'.firm = D.firm) (h3 : D'.wait = D.wait) : Dsk w' base n V D' := by
  refine ⟨hb, ?_, ?_, ?_, h.hn, h.ne⟩
  · rw [h1]; exact own_touch h.rn ht (fun b hv e => h.nn (e ▸ hv))
  · rw [h2]; exact own_touch h.rf ht (fun b hv e => h.nf (e ▸ hv))
  · rw [h3]; exact own_touch h.rw ht (fun b hv e => h.nw (e ▸ hv))
theorem Goes.setBox (ht : Touch (· = n) w w') : Goes w w' n V V := ⟨ht.mono (fun k _ e => .inl e), fun _ h => .inl h⟩

theorem many_any (h : Dsk w base n V D) (hl : D.now.length ≤ 65536) : Calls Try.prog 39 #[.pointer (some ⟨n, 0, none⟩)] w fun e w' => e = .returned (.int .i64 D.now.length) ∧ w = w' := by
  obtain ⟨ad, c, he, _⟩ := own_shape h.rn
  obtain ⟨c0, _⟩ := h.cells
  rw [he] at c0
  have hn := h.box.lt
  clear h he
  go_enter Try.func39, Try.ntmps39
  go_wp2
  go_ret
  exact ⟨rfl, rfl⟩
theorem dead_any (h : Dsk w base n V D) : Calls Try.prog 38 #[.pointer (some ⟨n, 0, none⟩)] w fun e w' => e = .returned (.bool D.dead) ∧ w = w' := by
  obtain ⟨_, _, _, _, c4⟩ := h.cells
  have hn := h.box.lt
  clear h
  go_enter Try.func38, Try.ntmps38
  go_wp2
  go_ret
  exact ⟨rfl, rfl⟩
def armD (D : Dk) (k : Int) : Dk := { D with armed := max k 0 }
theorem arm_any (k : Int) (h : Dsk w base n V D) : Calls Try.prog 30 #[.pointer (some ⟨n, 0, none⟩), .int .i64 k] w fun e w' => e = .returned (.tuple #[]) ∧ Dsk w' base n V (armD D k) ∧ Goes w w' n V V := by
  obtain ⟨_, _, _, c3, _⟩ := h.cells
  have hn := h.box.lt
  have f3 := h.box.frozen 3
  have HD := Lib.hid h
  clear h
  go_enter Try.func30, Try.ntmps30
  go_wp2
  · go_end0
    have hk : k ≤ 0 := by omega
    have ht : Touch (· = n) w (w.setCell ⟨n, 3, none⟩ (.int .i64 0)) := (Touch.refl _ _).set1 3 _
    exact ⟨rfl, HD.out.setBox (D' := armD D k) (by have := HD.out.box.set 3 (.int .i64 0); rw [show (armD D k).armed = 0 by unfold armD; simp only []; omega]; exact this) ht rfl rfl rfl, Goes.setBox ht⟩
  · go_end0
    have hk : 0 ≤ k := by omega
    have ht : Touch (· = n) w (w.setCell ⟨n, 3, none⟩ (.int .i64 k)) := (Touch.refl _ _).set1 3 _
    exact ⟨rfl, HD.out.setBox (D' := armD D k) (by have := HD.out.box.set 3 (.int .i64 k); rw [show (armD D k).armed = k by unfold armD; simp only []; omega]; exact this) ht rfl rfl rfl, Goes.setBox ht⟩
def mayE (D : Dk) (k : Int) : Int := if D.dead then 40 else if k < 0 ∨ (D.now.length : Int) ≤ k then 41 else 0
theorem may_any (k : Int) (h : Dsk w base n V D) (hl : D.now.length ≤ 65536) : Calls Try.prog 36 #[.pointer (some ⟨n, 0, none⟩), .int .i64 k] w fun e w' => e = .returned (.int .i64 (mayE D k)) ∧ w = w' := by
  obtain ⟨ad, c, he, _⟩ := own_shape h.rn
  obtain ⟨c0, _, _, _, c4⟩ := h.cells
  rw [he] at c0
  have hn := h.box.lt
  obtain ⟨N, hN⟩ : ∃ N, N = D.now.length := ⟨_, rfl⟩
  rw [← hN] at c0 hl
  have HE := Lib.hid (show mayE D k = if D.dead then 40 else if k < 0 ∨ (N : Int) ≤ k then 41 else 0 by unfold mayE; rw [hN])
  clear h he hN
  cases hd : D.dead
  · rw [hd] at c4 HE
    by_cases h0 : k < 0
    · have HE2 := Lib.hid (show mayE D k = 41 by rw [HE.out]; simp [h0])
      have h0' : decide (k < 0) = true := by simpa using h0
      clear HE h0 hd
      go_enter Try.func36, Try.ntmps36
      go_wp2
      go_ret
      exact ⟨congrArg (fun x => Ending.returned (Value.int .i64 x)) HE2.out.symm, rfl⟩
    · have h0' : decide (k < 0) = false := by simpa using h0
      by_cases h1 : (N : Int) ≤ k
      · have HE2 := Lib.hid (show mayE D k = 41 by rw [HE.out]; simp [h1])
        have h1' : decide ((N : Int) ≤ k) = true := by simpa using h1
        clear HE h0 h1 hd
        go_enter Try.func36, Try.ntmps36
        go_wp2
        go_ret
        exact ⟨congrArg (fun x => Ending.returned (Value.int .i64 x)) HE2.out.symm, rfl⟩
      · have HE2 := Lib.hid (show mayE D k = 0 by rw [HE.out]; simp [h0, h1])
        have h1' : decide ((N : Int) ≤ k) = false := by simpa using h1
        clear HE h0 h1 hd
        go_enter Try.func36, Try.ntmps36
        go_wp2
        go_ret
        exact ⟨congrArg (fun x => Ending.returned (Value.int .i64 x)) HE2.out.symm, rfl⟩
  · rw [hd] at c4 HE
    clear hd
    go_enter Try.func36, Try.ntmps36
    go_wp2
    go_ret
    exact ⟨congrArg (fun x => Ending.returned (Value.int .i64 x)) HE.out.symm, rfl⟩
def diesD (D : Dk) : Dk := if D.armed = 0 then D else { D with armed := D.armed - 1, dead := decide (D.armed - 1 = 0) }
def diesB (D : Dk) : Bool := if D.armed = 0 then false else decide (D.armed - 1 = 0)
theorem dies_any (h : Dsk w base n V D) (hg : 0 ≤ D.armed ∧ D.armed ≤ 9223372036854775807) : Calls Try.prog 37 #[.pointer (some ⟨n, 0, none⟩)] w fun e w' => e = .returned (.bool (diesB D)) ∧ Dsk w' base n V (diesD D) ∧ Goes w w' n V V := by
  obtain ⟨_, _, _, c3, c4⟩ := h.cells
  have hn := h.box.lt
  have f3 := h.box.frozen 3
  have f4 := h.box.frozen 4
  have HD := Lib.hid h
  have HG := Lib.hid hg
  clear h hg
  by_cases h0 : D.armed = 0
  · have HE := Lib.hid (show diesB D = false by unfold diesB; rw [if_pos h0])
    have HE2 := Lib.hid (show diesD D = D by unfold diesD; rw [if_pos h0])
    rw [h0] at c3
    clear h0
    go_enter Try.func37, Try.ntmps37
    go_wp2
    go_ret
    exact ⟨congrArg (fun x => Ending.returned (Value.bool x)) HE.out.symm, by rw [HE2.out]; exact HD.out, Goes.refl _ _ _⟩
  · have HE := Lib.hid (show diesB D = decide (D.armed - 1 = 0) by unfold diesB; rw [if_neg h0])
    have HE2 := Lib.hid (show diesD D = { D with armed := D.armed - 1, dead := decide (D.armed - 1 = 0) } by unfold diesD; rw [if_neg h0])
    obtain ⟨a, ha⟩ : ∃ a, a = D.armed := ⟨_, rfl⟩
    have hg := HG.out
    rw [← ha] at c3 h0 HE HE2 hg
    have h0' : (a == 0) = false := by simpa using h0
    have hg1 : 1 ≤ a := by omega
    have hg2 := hg.2
    obtain ⟨b, hb⟩ : ∃ b, b = decide (a - 1 = 0) := ⟨_, rfl⟩
    have hb2 : (a - 1 == 0) = b := by rw [hb, Bool.eq_iff_iff]; simp
    rw [← hb] at HE HE2
    clear hb h0 HG ha hg
    go_enter Try.func37, Try.ntmps37
    go_wp2
    go_ret
    have ht : Touch (· = n) w ((w.setCell ⟨n, 3, none⟩ (.int .i64 (a - 1))).setCell ⟨n, 4, none⟩ (.bool b)) := ((Touch.refl _ _).set1 3 _).set1 4 _
    exact ⟨congrArg (fun x => Ending.returned (Value.bool x)) HE.out.symm, by rw [HE2.out]; exact HD.out.setBox ((HD.out.box.set 3 _).set 4 _) ht rfl rfl rfl, Goes.setBox ht⟩
end Go.Proofs.Ytdiboicllolcnaa
