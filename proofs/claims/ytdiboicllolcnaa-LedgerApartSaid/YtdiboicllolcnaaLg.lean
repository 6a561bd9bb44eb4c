/- ledger: Open. Conditions: the disk lies in the call's own memory. -/
import Derived.Test.YtdiboicllolcnaaLf
namespace Go.Proofs.Ytdiboicllolcnaa
open Go Go.RowKit
set_option linter.unusedVariables false
set_option linter.unusedSimpArgs false
variable {w w' : World} {base n nd : Nat} {V V' : Vl} {VD VD' : Vs} {D D' : Dk} {G G' : Lg}

def G0 (f M : Nat) : Lg := ⟨f, (M - 2) / 2, 0, 0, 0, [], [], false⟩
/-- one mark is taken, if it is greater. -/
def pickG (G : Lg) (X : Sec) : Lg := if (lookR G X).2.2.2 = true ∧ G.mark < (lookR G X).1 then { G with mark := (lookR G X).1, half := (lookR G X).2.1, firm := (lookR G X).2.2.1 } else G
def secAt (D : Dk) (k : Nat) : Sec := D.now.getD k []
/-- the marks that are looked at, so many of them. -/
def markG (D : Dk) (f M : Nat) : Nat → Lg
  | 0 => G0 f M
  | k + 1 => pickG (markG D f M k) (secAt D (f + k))
def thereM (D : Dk) (f M : Int) : Bool := decide (0 ≤ f) && decide (4 ≤ M) && decide (M ≤ (D.now.length : Int)) && decide (f ≤ (D.now.length : Int) - M)
theorem lookR_is {G : Lg} {X : Sec} (h : (lookR G X).2.2.2 = true) : (lookR G X).2.1 < 2 ∧ (lookR G X).2.2.1 ≤ G.size * 64 := by
  unfold lookR at *
  split at h
  · rename_i he
    rw [if_pos he]
    simp only [Bool.and_eq_true, decide_eq_true_eq] at h
    exact h
  · cases h
/-- what is true of the ledger while the marks are looked at. -/
structure Marks (D : Dk) (f M : Nat) (G : Lg) : Prop where
  fits : Fits G D
  from_ : G.from_ = f
  size : G.size = (M - 2) / 2
  b : G.b = []
  all : G.all = []
  dead : G.dead = false
  firm : G.firm ≤ G.size * 64
theorem marks_zero {f M : Nat} (hg : Good D) (h4 : 4 ≤ M) (h : f + M ≤ D.now.length) : Marks D f M (G0 f M) :=
  ⟨⟨by show 1 ≤ (M - 2) / 2; omega, by show f + 2 + 2 * ((M - 2) / 2) ≤ _; omega, hg.many, by show 0 < 2; omega, by show 0 ≤ _; omega⟩, rfl, rfl, rfl, rfl, rfl, Nat.zero_le _⟩
theorem Marks.pick {f M : Nat} {G : Lg} (h : Marks D f M G) (X : Sec) : Marks D f M (pickG G X) := by
  unfold pickG
  split
  · rename_i hh
    obtain ⟨h1, h2⟩ := lookR_is hh.1
    exact ⟨⟨h.fits.size0, h.fits.size, h.fits.disk, h1, h.fits.b⟩, h.from_, h.size, h.b, h.all, h.dead, h2⟩
  · exact h
theorem marks_at {f M : Nat} (hg : Good D) (h4 : 4 ≤ M) (h : f + M ≤ D.now.length) (k : Nat) : Marks D f M (markG D f M k) := by
  induction k with
  | zero => exact marks_zero hg h4 h
  | succ k ih => exact ih.pick _
def openG (D : Dk) (f M : Nat) : Option Lg := (decL ((halfB D (markG D f M 2)).take (markG D f M 2).firm)).map fun all => { markG D f M 2 with b := (halfB D (markG D f M 2)).take (markG D f M 2).firm, all := all }
/-- what Open answers. -/
def OpenPost (w : World) (base nd : Nat) (VD : Vs) (D : Dk) (f M : Int) (e : Ending) (w' : World) : Prop :=
  Below w.heap.size w w' ∧ ((D.dead = true ∧ e = .returned (.tuple #[.pointer none, .int .i64 40])) ∨ (D.dead = false ∧ thereM D f M = false ∧ e = .returned (.tuple #[.pointer none, .int .i64 50])) ∨
    (D.dead = false ∧ thereM D f M = true ∧ openG D f.toNat M.toNat = none ∧ e = .returned (.tuple #[.pointer none, .int .i64 50])) ∨
    ∃ n V G, D.dead = false ∧ thereM D f M = true ∧ openG D f.toNat M.toNat = some G ∧ e = .returned (.tuple #[.pointer (some ⟨n, 0, none⟩), .int .i64 0]) ∧ Ldg w' base n nd V VD D G ∧ w.heap.size ≤ n ∧ ∀ k, OfL n nd V VD k → Of nd VD k ∨ w.heap.size ≤ k)
theorem open_dead (f M : Int) (h : Dsk w base nd VD D) (hd : D.dead = true) : Calls Try.prog 17 #[.pointer (some ⟨nd, 0, none⟩), .int .i64 f, .int .i64 M] w (OpenPost w base nd VD D f M) := by
  have C := Lib.hid (dead_any h)
  rw [hd] at C
  have HD := Lib.hid hd
  clear h hd
  go_enter Try.func17, Try.ntmps17
  go_wp2_with fail
  refine C.out.mono ?_
  rintro e w1 ⟨rfl, rfl⟩
  go_wp2_with fail
  go_ret2
  exact ⟨Below.refl _ _, .inl ⟨HD.out, rfl⟩⟩
theorem open_not (f M : Int) (h : Dsk w base nd VD D) (hg : Good D) (hd : D.dead = false) (ht : thereM D f M = false) : Calls Try.prog 17 #[.pointer (some ⟨nd, 0, none⟩), .int .i64 f, .int .i64 M] w (OpenPost w base nd VD D f M) := by
  have C := Lib.hid (dead_any h)
  rw [hd] at C
  have CM := Lib.hid (many_any h hg.many)
  have HR := Lib.hid (show OpenPost w base nd VD D f M (.returned (.tuple #[.pointer none, .int .i64 50])) w from ⟨Below.refl _ _, .inr (.inl ⟨hd, ht, rfl⟩)⟩)
  have hl := hg.many
  obtain ⟨L, hL⟩ : ∃ L, L = D.now.length := ⟨_, rfl⟩
  rw [← hL] at CM hl
  have ht2 : ¬ (0 ≤ f ∧ 4 ≤ M ∧ M ≤ (L : Int) ∧ f ≤ (L : Int) - M) := fun hh => by
    have : thereM D f M = true := by
      unfold thereM
      simp only [Bool.and_eq_true, decide_eq_true_eq]
      rw [← hL]
      exact ⟨⟨⟨hh.1, hh.2.1⟩, hh.2.2.1⟩, hh.2.2.2⟩
    rw [ht] at this
    cases this
  clear h hg hd ht hL
  by_cases h1 : f < 0
  · clear ht2
    go_enter Try.func17, Try.ntmps17
    go_wp2_with fail
    refine C.out.mono ?_
    rintro e w1 ⟨rfl, rfl⟩
    go_wp2_with fail
    go_ret2
    exact HR.out
  by_cases h2 : M < 4
  · clear ht2
    go_enter Try.func17, Try.ntmps17
    go_wp2_with fail
    refine C.out.mono ?_
    rintro e w1 ⟨rfl, rfl⟩
    go_wp2_with fail
    go_ret2
    exact HR.out
  by_cases h3 : (L : Int) < M
  · clear ht2
    go_enter Try.func17, Try.ntmps17
    go_wp2_with fail
    refine C.out.mono ?_
    rintro e w1 ⟨rfl, rfl⟩
    go_wp2_with fail
    refine CM.out.mono ?_
    rintro e w1 ⟨rfl, rfl⟩
    go_wp2_with fail
    go_ret2
    exact HR.out
  · have h5 : (L : Int) - M < f := by omega
    clear ht2
    go_enter Try.func17, Try.ntmps17
    go_wp2_with fail
    refine C.out.mono ?_
    rintro e w1 ⟨rfl, rfl⟩
    go_wp2_with fail
    refine CM.out.mono ?_
    rintro e w1 ⟨rfl, rfl⟩
    go_wp2_with fail
    refine CM.out.mono ?_
    rintro e w1 ⟨rfl, rfl⟩
    go_wp2_with fail
    go_ret2
    exact HR.out
set_option maxRecDepth 100000 in
set_option maxHeartbeats 8000000 in
theorem open_there (f M : Nat) (h : Dsk w base nd VD D) (hb : base ≤ w.heap.size) (hg : Good D) (hd : D.dead = false) (h4 : 4 ≤ M) (hfm : f + M ≤ D.now.length) : Calls Try.prog 17 #[.pointer (some ⟨nd, 0, none⟩), .int .i64 (f : Int), .int .i64 (M : Int)] w (OpenPost w base nd VD D f M) := by
  have C := Lib.hid (dead_any h)
  rw [hd] at C
  have CM := Lib.hid (many_any h hg.many)
  have hl := hg.many
  have HM := Lib.hid (fun k => marks_at hg h4 hfm k)
  have HDD := Lib.hid hd
  have HG := Lib.hid hg
  have ht : thereM D f M = true := by
    unfold thereM
    simp only [Bool.and_eq_true, decide_eq_true_eq]
    omega
  have HT := Lib.hid ht
  have HFM := Lib.hid hfm
  obtain ⟨L, hL⟩ : ∃ L, L = D.now.length := ⟨_, rfl⟩
  rw [← hL] at CM hl hfm
  obtain ⟨S, hS⟩ : ∃ S : Nat, S = (M - 2) / 2 := ⟨_, rfl⟩
  have hS2 : ((M : Int) - 2) / 2 = (S : Int) := by omega
  have hw1 : IntKind.i64.wrap ((M : Int) - 2) = (M : Int) - 2 := by rw [IntKind.wrap_i64]; omega
  have HX := Box.new w 71 (lcs nd ⟨.slice none 0 0, .slice none 0 0⟩ ⟨f, S, 0, 0, 0, [], [], false⟩)
  have hB := (Below.refl w.heap.size w).alloc (Nat.le_refl _) (.cells (lcs nd ⟨.slice none 0 0, .slice none 0 0⟩ ⟨f, S, 0, 0, 0, [], [], false⟩) 71)
  have HL := Lib.hid (show Ldg (w.alloc (.cells (lcs nd ⟨.slice none 0 0, .slice none 0 0⟩ ⟨f, S, 0, 0, 0, [], [], false⟩) 71)) base w.heap.size nd ⟨.slice none 0 0, .slice none 0 0⟩ VD D (markG D f M 0) from by
    show Ldg _ base w.heap.size nd _ VD D (G0 f M)
    unfold G0
    rw [← hS]
    exact ⟨HX, h.bel hB, World.ownsRow_nil _ _ _ _, World.ownsRow_nil _ _ _ _, hb⟩)
  have HB := Lib.hid hB
  have q1 : decide ((f : Int) < 0) = false := decide_eq_false (by omega)
  have q2 : decide ((M : Int) < 4) = false := decide_eq_false (by omega)
  have q3 : decide (L < M) = false := decide_eq_false (by omega)
  have q4 : decide ((L : Int) - (M : Int) < (f : Int)) = false := decide_eq_false (by omega)
  clear h hg hd ht hL hS HX hB
  go_enter Try.func17, Try.ntmps17
  go_wp2_with fail
  refine C.out.mono ?_
  rintro e w1 ⟨rfl, rfl⟩
  go_wp2_with fail
  refine CM.out.mono ?_
  rintro e w1 ⟨rfl, rfl⟩
  go_wp2_with fail
  refine CM.out.mono ?_
  rintro e w1 ⟨rfl, rfl⟩
  go_upto_region 6 with (fail)
  refine wp_name (fun W => Ldg W base w.heap.size nd ⟨.slice none 0 0, .slice none 0 0⟩ VD D (markG D f M 0) ∧ Below w.heap.size w W) ⟨HL.out, HB.out⟩ ?_
  clear HL HB C CM hS2 hw1
  rintro W1 ⟨hL1, hB1⟩
  have HL := Lib.hid hL1
  have HB := Lib.hid hB1
  clear hL1 hB1
  go_wp2_with fail
  go_loopw [9, 10, 11, 12, 13, 46] (fun _ _ _ _ _ i wr => ∃ k : Nat, k ≤ 2 ∧ i = .int .i64 k ∧ Ldg wr base w.heap.size nd ⟨.slice none 0 0, .slice none 0 0⟩ VD D (markG D f M k) ∧ Below w.heap.size w wr) (fun _ _ _ _ _ i _ => 2 - (intOf i).toNat)
  case atStart => exact ⟨0, by omega, rfl, HL.out, HB.out⟩
  case round =>
    clear HL HB
    obtain ⟨k, hk, rfl, hLk, hBk⟩ := hrel
    obtain ⟨G, hG⟩ : ∃ G, G = markG D f M k := ⟨_, rfl⟩
    have HMK := Lib.hid (HM.out k)
    rw [← hG] at hLk HMK
    have HL := Lib.hid hLk
    have HB := Lib.hid hBk
    have HGE := Lib.hid hG
    clear hLk hBk hG
    by_cases hlt : k < 2
    · have hfk : f + k < D.now.length := by have := HFM.out; omega
      obtain ⟨X, hX⟩ : ∃ X, D.now[f + k]? = some X := ⟨_, List.getElem?_eq_getElem hfk⟩
      have HSA := Lib.hid (show secAt D (f + k) = X by unfold secAt; rw [List.getD_eq_getElem?_getD, hX]; rfl)
      have HNX := Lib.hid (show markG D f M (k + 1) = pickG G X by rw [markG, ← HGE.out, HSA.out])
      have CL := Lib.hid (look_any k X HL.out HMK.out.fits HG.out HDD.out (by rw [HMK.out.from_]; exact hX) hlt)
      obtain ⟨r1, hr1⟩ : ∃ r, r = (lookR G X).1 := ⟨_, rfl⟩
      obtain ⟨r2, hr2⟩ : ∃ r, r = (lookR G X).2.1 := ⟨_, rfl⟩
      obtain ⟨r3, hr3⟩ : ∃ r, r = (lookR G X).2.2.1 := ⟨_, rfl⟩
      obtain ⟨r4, hr4⟩ : ∃ r, r = (lookR G X).2.2.2 := ⟨_, rfl⟩
      have HPK := Lib.hid (show pickG G X = if r4 = true ∧ G.mark < r1 then { G with mark := r1, half := r2, firm := r3 } else G by rw [hr1, hr2, hr3, hr4]; rfl)
      rw [← hr1, ← hr2, ← hr3, ← hr4] at CL
      clear hr1 hr2 hr3 hr4 hX hfk
      go_wp2_with fail
      refine CL.out.mono ?_
      rintro e w5 ⟨rfl, b5⟩
      have HL5 := Lib.hid (HL.out.bel b5)
      have HB5 := Lib.hid (HB.out.trans (b5.mono HB.out.size))
      clear b5 HL HB CL
      cases r4 with
      | false =>
        have HNX2 := Lib.hid (show markG D f M (k + 1) = G by rw [HNX.out, HPK.out]; simp)
        go_wp2_with fail
        go_roundw
        case rel => exact ⟨k + 1, by omega, by go_num, by rw [HNX2.out]; exact HL5.out, HB5.out⟩
        case measure => simp [intOf]; omega
      | true =>
        have p3 : w5.cell? ⟨w.heap.size, 3, none⟩ = some (.int .u64 (G.mark : Nat)) := HL5.out.box.cell 3
        have hn5 := HL5.out.box.lt
        by_cases hmk : G.mark < r1
        · have hmk2 : decide ((G.mark : Int) < (r1 : Int)) = true := decide_eq_true (by omega)
          have HNX2 := Lib.hid (show markG D f M (k + 1) = { G with mark := r1, half := r2, firm := r3 } by rw [HNX.out, HPK.out]; rw [if_pos ⟨rfl, hmk⟩])
          have p4 : w5.cell? ⟨w.heap.size, 4, none⟩ = some (.int .i64 (G.half : Nat)) := HL5.out.box.cell 4
          have p5 : w5.cell? ⟨w.heap.size, 5, none⟩ = some (.int .i64 (G.firm : Nat)) := HL5.out.box.cell 5
          have f3 := HL5.out.box.frozen 3
          have f4 := HL5.out.box.frozen 4
          have f5 := HL5.out.box.frozen 5
          have hA := HL5.out.put 3 (.int .u64 (r1 : Nat)) { G with mark := r1 } rfl rfl rfl
          have hA2 := hA.put 4 (.int .i64 (r2 : Nat)) { G with mark := r1, half := r2 } rfl rfl rfl
          have hA3 := hA2.put 5 (.int .i64 (r3 : Nat)) { G with mark := r1, half := r2, firm := r3 } rfl rfl rfl
          have HA3 := Lib.hid hA3
          have HB6 := Lib.hid (((HB5.out.setCell (p := ⟨w.heap.size, 3, none⟩) (Nat.le_refl _) (.int .u64 (r1 : Nat))).setCell (p := ⟨w.heap.size, 4, none⟩) (Nat.le_refl _) (.int .i64 (r2 : Nat))).setCell (p := ⟨w.heap.size, 5, none⟩) (Nat.le_refl _) (.int .i64 (r3 : Nat)))
          clear hA hA2 hA3
          go_wp2_with fail
          go_roundw
          case rel => exact ⟨k + 1, by omega, by go_num, by rw [HNX2.out]; exact HA3.out, HB6.out⟩
          case measure => simp [intOf]; omega
        · have hmk2 : decide ((G.mark : Int) < (r1 : Int)) = false := decide_eq_false (by omega)
          have HNX2 := Lib.hid (show markG D f M (k + 1) = G by rw [HNX.out, HPK.out, if_neg (fun h => hmk h.2)])
          go_wp2_with fail
          go_roundw
          case rel => exact ⟨k + 1, by omega, by go_num, by rw [HNX2.out]; exact HL5.out, HB5.out⟩
          case measure => simp [intOf]; omega
    · obtain rfl : k = 2 := by omega
      have hws : w.heap.size ≤ wr.heap.size := HB.out.size
      have CR := Lib.hid (lread_any HL.out (Nat.le_trans hb hws) HMK.out.fits HG.out HDD.out HMK.out.firm)
      clear hlt
      go_wp2_with fail
      refine CR.out.mono ?_
      rintro e w6 ⟨hT, ⟨hdn, rfl⟩ | ⟨all, V6, hda, rfl, hL6, hG6⟩⟩
      · have HB6 := Lib.hid (Below.touch HB.out hT (Nat.le_refl _) (fun k hk => by rw [hk]; exact Nat.le_refl _))
        have HDN := Lib.hid hdn
        clear hT hdn CR
        go_wp2_with fail
        go_ret2
        refine ⟨HB6.out, .inr (.inr (.inl ⟨HDD.out, HT.out, ?_, rfl⟩))⟩
        rw [Int.toNat_natCast, Int.toNat_natCast]
        unfold openG
        rw [← HGE.out, HDN.out]
        rfl
      · have HB6 := Lib.hid (Below.touch HB.out hT (Nat.le_refl _) (fun k hk => by rw [hk]; exact Nat.le_refl _))
        have HDA := Lib.hid hda
        have HL6 := Lib.hid hL6
        have HG6 := Lib.hid hG6
        clear hT hda hL6 hG6 CR
        go_wp2_with fail
        go_ret2
        refine ⟨HB6.out, .inr (.inr (.inr ⟨w.heap.size, V6, { G with b := (halfB D G).take G.firm, all := all }, HDD.out, HT.out, ?_, rfl, HL6.out, Nat.le_refl _, fun k hk => ?_⟩))⟩
        · rw [Int.toNat_natCast, Int.toNat_natCast]
          unfold openG
          rw [← HGE.out, HDA.out]
          rfl
        · rcases HG6.out.lies k hk with (h1 | h1 | h1 | h1) | h1
          · exact .inr (by rw [h1]; exact Nat.le_refl _)
          · cases h1
          · cases h1
          · exact .inl h1
          · exact .inr (Nat.le_trans hws h1)
theorem open_any (f M : Int) (h : Dsk w base nd VD D) (hb : base ≤ w.heap.size) (hg : Good D) : Calls Try.prog 17 #[.pointer (some ⟨nd, 0, none⟩), .int .i64 f, .int .i64 M] w (OpenPost w base nd VD D f M) := by
  cases hd : D.dead
  · cases ht : thereM D f M
    · exact open_not f M h hg hd ht
    · simp only [thereM, Bool.and_eq_true, decide_eq_true_eq] at ht
      obtain ⟨⟨⟨h1, h2⟩, h3⟩, h4⟩ := ht
      obtain ⟨f, rfl⟩ := Int.eq_ofNat_of_zero_le h1
      obtain ⟨M, rfl⟩ := Int.eq_ofNat_of_zero_le (show 0 ≤ M by omega)
      exact open_there f M h hb hg hd (by omega) (by omega)
  · exact open_dead f M h hd
end Go.Proofs.Ytdiboicllolcnaa
