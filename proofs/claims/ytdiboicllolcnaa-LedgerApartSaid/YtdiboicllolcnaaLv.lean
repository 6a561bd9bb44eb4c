/- ledger: what lies on sectors, and what Open finds there, in plain words. Conditions: as in each statement. -/
import Derived.Test.YtdiboicllolcnaaLt
namespace Go.Proofs.Ytdiboicllolcnaa
open Go Go.RowKit
set_option linter.unusedVariables false
set_option linter.unusedSimpArgs false
variable {w w' : World} {base n nd b0 : Nat} {V V' : Vl} {VD VD' : Vs} {D D' : Dk} {G G' : Lg}
/-- sectors on which a ledger lies: m its mark, bF the bytes that the mark says. -/
structure SInv (S : List Sec) (f M m half : Nat) (bF : Sec) : Prop where
  full : Full S
  len : f + M ≤ S.length
  four : 4 ≤ M
  hlf : half < 2
  fits : bF.length ≤ ((M - 2) / 2) * 64
  disk : M ≤ 65536
  markA : (m = 0 ∧ half = 0 ∧ bF = [] ∧ S[f]? = some zsec) ∨ (0 < m ∧ S[f + m % 2]? = some (markS m half bF.length))
  markB : ∃ X, S[f + (m + 1) % 2]? = some X ∧ X[63]? ≠ some (byteN (m + 1) 0) ∧ (num (X.drop 56) < m ∨ num (X.drop 56) = 0 ∨ X.take 8 = be8 (m + 1))
  data : ∀ j i X, S[f + 2 + half * ((M - 2) / 2) + j]? = some X → i < 64 → j * 64 + i < bF.length → X[i]? = bF[j * 64 + i]?
theorem markS_take (m half F : Nat) : (markS m half F).take 8 = be8 m := rfl
theorem markS_drop (m half F : Nat) : (markS m half F).drop 56 = be8 m := rfl
theorem markS_half (m half F : Nat) : (markS m half F).getD 8 0 = UInt8.ofNat half := rfl
theorem markS_firm (m half F : Nat) : ((markS m half F).drop 9).take 4 = be4 F := rfl
theorem lookR_mark {G : Lg} {m half F : Nat} (hm : m < 18446744073709551616) (hh : half < 2) (hF : F ≤ G.size * 64) (hF2 : F < 4294967296) : lookR G (markS m half F) = (m, half, F, true) := by
  unfold lookR
  rw [markS_take, markS_drop, if_pos rfl, markS_half, markS_firm, num_be8 m hm, num_be4 F hF2]
  have e : (UInt8.ofNat half).toNat = half := by rw [UInt8.toNat_ofNat']; omega
  rw [e, decide_eq_true hh, decide_eq_true hF]
  rfl
theorem lookR_zero (G : Lg) : (lookR G zsec).1 = 0 := by
  unfold lookR
  have e1 : zsec.take 8 = zsec.drop 56 := rfl
  rw [if_pos e1]
  rfl
theorem lookR_val {G : Lg} {X : Sec} (h : (lookR G X).2.2.2 = true) : X.take 8 = X.drop 56 ∧ (lookR G X).1 = num (X.drop 56) := by
  unfold lookR at *
  split at h
  · rename_i he
    rw [if_pos he, he]
    exact ⟨rfl, rfl⟩
  · cases h
theorem last_be8 (m : Nat) : (be8 m)[7]? = some (byteN m 0) := rfl
/-- the other mark is never the greater one. -/
theorem lookR_other {G : Lg} {X : Sec} {m : Nat} (h63 : X[63]? ≠ some (byteN (m + 1) 0)) (hv : num (X.drop 56) < m ∨ num (X.drop 56) = 0 ∨ X.take 8 = be8 (m + 1)) (h : (lookR G X).2.2.2 = true) : (lookR G X).1 < m ∨ (lookR G X).1 = 0 := by
  obtain ⟨he, h1⟩ := lookR_val h
  rw [h1]
  rcases hv with hv | hv | hv
  · exact .inl hv
  · exact .inr hv
  · exfalso
    rw [hv] at he
    apply h63
    have := last_be8 (m + 1)
    rw [he, List.getElem?_drop] at this
    exact this
theorem pick_not {G : Lg} {X : Sec} (h : (lookR G X).2.2.2 = true → (lookR G X).1 ≤ G.mark) : pickG G X = G := by
  unfold pickG
  rw [if_neg]
  rintro ⟨h1, h2⟩
  have := h h1
  omega
theorem pick_mark {G : Lg} {m half F : Nat} (hm : m < 18446744073709551616) (hh : half < 2) (hF : F ≤ G.size * 64) (hF2 : F < 4294967296) (hg : G.mark < m) : pickG G (markS m half F) = { G with mark := m, half := half, firm := F } := by
  unfold pickG
  rw [lookR_mark hm hh hF hF2, if_pos ⟨rfl, hg⟩]
theorem pick_size (G : Lg) (X : Sec) : (pickG G X).size = G.size := by unfold pickG; split <;> rfl
theorem secAt_some {k : Nat} {X : Sec} (h : D.now[k]? = some X) : secAt D k = X := by unfold secAt; rw [List.getD_eq_getElem?_getD, h]; rfl
/-- the mark that counts is found. -/
theorem marks_found {f M m half : Nat} {bF : Sec} (h : SInv D.now f M m half bF) (hm : m < 4294967296) : markG D f M 2 = { G0 f M with mark := m, half := half, firm := bF.length } := by
  obtain ⟨X, hX, h63, hv⟩ := h.markB
  have hF : bF.length ≤ (G0 f M).size * 64 := h.fits
  have hF2 : bF.length < 4294967296 := by have := h.fits; have := h.disk; omega
  have hm2 : m < 18446744073709551616 := by omega
  show pickG (pickG (G0 f M) (secAt D (f + 0))) (secAt D (f + 1)) = _
  rcases h.markA with ⟨rfl, rfl, rfl, hA⟩ | ⟨h0, hA⟩
  · have p1 : pickG (G0 f M) zsec = G0 f M := pick_not (fun _ => by rw [lookR_zero]; exact Nat.zero_le _)
    have p2 : pickG (G0 f M) X = G0 f M := pick_not (fun hi => by
      rcases lookR_other h63 hv hi with h1 | h1
      · exact absurd h1 (Nat.not_lt_zero _)
      · rw [h1]; exact Nat.zero_le _)
    have hX' : D.now[f + 1]? = some X := hX
    rw [Nat.add_zero, secAt_some hA, secAt_some hX', p1, p2]
    rfl
  · rcases Nat.mod_two_eq_zero_or_one m with e | e
    · have e1 : (m + 1) % 2 = 1 := by omega
      rw [e] at hA
      rw [e1] at hX
      rw [secAt_some hA, secAt_some hX, pick_mark hm2 h.hlf hF hF2 h0, pick_not (fun hi => by
        rcases lookR_other h63 hv hi with h1 | h1
        · exact Nat.le_of_lt h1
        · rw [h1]; exact Nat.zero_le _)]
    · have e1 : (m + 1) % 2 = 0 := by omega
      rw [e] at hA
      rw [e1] at hX
      rw [secAt_some hA, secAt_some hX]
      obtain ⟨G1, hG1⟩ : ∃ G1, G1 = pickG (G0 f M) X := ⟨_, rfl⟩
      have hlt : G1.mark < m := by
        rw [hG1]
        unfold pickG
        split
        · rename_i hh
          rcases lookR_other h63 hv hh.1 with h1 | h1
          · exact h1
          · show (lookR (G0 f M) X).1 < m; rw [h1]; exact h0
        · exact h0
      have hsz : G1.size = (G0 f M).size := by rw [hG1]; exact pick_size _ _
      rw [← hG1, pick_mark hm2 h.hlf (by rw [hsz]; exact hF) hF2 hlt, hG1]
      unfold pickG
      split <;> rfl
theorem secs_get (hg : Full D.now) {s : Nat} : ∀ (k p : Nat), s + k ≤ D.now.length → p < k * 64 → (secs D s k)[p]? = (D.now[s + p / 64]?).bind (·[p % 64]?) := by
  intro k
  induction k with
  | zero => intro p _ h; omega
  | succ k ih =>
    intro p hk hp
    have hX : D.now[s + k]? = some (D.now[s + k]'(by omega)) := List.getElem?_eq_getElem (by omega)
    have hl : (secs D s k).length = k * 64 := by
      clear ih hp hX
      induction k with
      | zero => simp [secs]
      | succ k ih2 =>
        have hX : D.now[s + k]? = some (D.now[s + k]'(by omega)) := List.getElem?_eq_getElem (by omega)
        rw [secs_succ hX, List.length_append, ih2 (by omega), hg _ (List.mem_of_getElem? hX)]
        omega
    rw [secs_succ hX]
    by_cases h1 : p < k * 64
    · rw [List.getElem?_append_left (by rw [hl]; exact h1)]
      exact ih p (by omega) h1
    · rw [List.getElem?_append_right (by rw [hl]; omega), hl]
      have e1 : p / 64 = k := by omega
      have e2 : p % 64 = p - k * 64 := by omega
      rw [e1, e2, hX]
      rfl
/-- what Open finds. -/
theorem open_found {f M m half : Nat} {bF : Sec} {all : List ByteArray} (h : SInv D.now f M m half bF) (hm : m < 4294967296) (hd : decL bF = some all) : openG D f M = some ⟨f, (M - 2) / 2, m, half, bF.length, bF, all, false⟩ := by
  have hmk := marks_found h hm
  have hfst : f + 2 + half * ((M - 2) / 2) + (M - 2) / 2 ≤ D.now.length := by
    have h1 := h.len
    have h2 := h.four
    have h3 : half * ((M - 2) / 2) ≤ 1 * ((M - 2) / 2) := Nat.mul_le_mul_right _ (by have := h.hlf; omega)
    omega
  have hb : (halfB D (markG D f M 2)).take (markG D f M 2).firm = bF := by
    rw [hmk]
    show (secs D (f + 2 + half * ((M - 2) / 2)) ((M - 2) / 2)).take bF.length = bF
    apply List.ext_getElem?
    intro p
    rw [List.getElem?_take]
    split
    · rename_i hp
      rw [secs_get h.full _ _ hfst (Nat.lt_of_lt_of_le hp h.fits)]
      obtain ⟨X, hX⟩ : ∃ X, D.now[f + 2 + half * ((M - 2) / 2) + p / 64]? = some X := ⟨_, List.getElem?_eq_getElem (by have := h.fits; omega)⟩
      rw [hX]
      have := h.data (p / 64) (p % 64) X hX (by omega) (by omega)
      rw [show p / 64 * 64 + p % 64 = p by omega] at this
      exact this
    · rename_i hp
      rw [List.getElem?_eq_none (by omega)]
  unfold openG
  rw [hb, hd, hmk]
  rfl
/-! writes that do no harm -/
structure Harm (f M half : Nat) (bF : Sec) (x : Wr) : Prop where
  len : x.2.length = 64
  n0 : x.1 ≠ f
  n1 : x.1 ≠ f + 1
  same : ∀ j i, x.1 = f + 2 + half * ((M - 2) / 2) + j → i < 64 → j * 64 + i < bF.length → x.2[i]? = bF[j * 64 + i]?
theorem two_ways (m : Nat) : m % 2 = 0 ∨ m % 2 = 1 := Nat.mod_two_eq_zero_or_one m
theorem SInv.set {S : List Sec} {f M m half : Nat} {bF : Sec} (h : SInv S f M m half bF) {x : Wr} (hx : Harm f M half bF x) : SInv (S.set x.1 x.2) f M m half bF := by
  have hne : ∀ n, (S.set x.1 x.2)[f + n % 2]? = S[f + n % 2]? := fun n => by
    rw [List.getElem?_set_ne]
    intro e
    rcases two_ways n with e1 | e1 <;> rw [e1] at e
    · exact hx.n0 e
    · exact hx.n1 e
  refine ⟨h.full.set _ _ hx.len, by rw [List.length_set]; exact h.len, h.four, h.hlf, h.fits, h.disk, ?_, ?_, ?_⟩
  · rcases h.markA with ⟨h1, h2, h3, h4⟩ | ⟨h1, h2⟩
    · exact .inl ⟨h1, h2, h3, by have := hne 0; rw [Nat.zero_mod, Nat.add_zero] at this; rw [this]; exact h4⟩
    · exact .inr ⟨h1, by rw [hne]; exact h2⟩
  · obtain ⟨X, h1, h2⟩ := h.markB
    exact ⟨X, by rw [hne]; exact h1, h2⟩
  · intro j i X hX hi hj
    by_cases e : x.1 = f + 2 + half * ((M - 2) / 2) + j
    · rw [← e, List.getElem?_set_self'] at hX
      cases hS : S[x.1]? with
      | none => rw [hS] at hX; cases hX
      | some Y =>
        rw [hS] at hX
        obtain rfl : x.2 = X := by simpa using hX
        exact hx.same j i e hi hj
    · rw [List.getElem?_set_ne e] at hX
      exact h.data j i X hX hi hj
theorem SInv.laid {f M m half : Nat} {bF : Sec} : ∀ (ws : List Wr) {S : List Sec}, SInv S f M m half bF → (∀ x ∈ ws, Harm f M half bF x) → SInv (laid S ws) f M m half bF := by
  intro ws
  induction ws with
  | nil => intro S h _; exact h
  | cons x ws ih => intro S h hx; exact ih (h.set (hx x (by simp))) fun y hy => hx y (by simp [hy])
theorem torn_get {s x : Sec} (hs : s.length = 64) (hx : x.length = 64) (t i : Nat) : (torn s x t)[i]? = if i < t then x[i]? else s[i]? := by
  unfold torn
  by_cases ht : t ≤ 64
  · by_cases hi : i < t
    · rw [if_pos hi, List.getElem?_append_left (by rw [List.length_take]; omega), List.getElem?_take, if_pos hi]
    · rw [if_neg hi, List.getElem?_append_right (by rw [List.length_take]; omega), List.length_take, List.getElem?_drop]
      congr 1
      omega
  · rw [List.take_of_length_le (by omega), List.drop_of_length_le (by omega), List.append_nil]
    split
    · rfl
    · rw [List.getElem?_eq_none (by omega), List.getElem?_eq_none (by omega)]
theorem Harm.torn {S : List Sec} {f M m half : Nat} {bF : Sec} (h : SInv S f M m half bF) {x : Wr} (hx : Harm f M half bF x) (hk : x.1 < S.length) (t : Nat) (ht : t ≤ 64) : Harm f M half bF (x.1, torn (S.getD x.1 []) x.2 t) := by
  have hS : S[x.1]? = some (S[x.1]) := List.getElem?_eq_getElem hk
  have hl : (S[x.1]).length = 64 := h.full _ (List.getElem_mem hk)
  have e : S.getD x.1 [] = S[x.1] := by rw [List.getD_eq_getElem?_getD, hS]; rfl
  rw [e]
  refine ⟨torn_len hl hx.len t ht, hx.n0, hx.n1, fun j i hj hi hlt => ?_⟩
  rw [torn_get hl hx.len]
  split
  · exact hx.same j i hj hi hlt
  · have hj' : x.1 = f + 2 + half * ((M - 2) / 2) + j := hj
    exact h.data j i _ (by rw [← hj']; exact hS) hi hlt
/-- what a crash leaves, where nothing that waits does harm. -/
theorem SInv.crash {f M m half : Nat} {bF : Sec} (hg : Good D) (h : SInv D.firm f M m half bF) (hw : ∀ x ∈ D.wait, Harm f M half bF x) (keep tear : Int) : SInv (crashL D keep tear) f M m half bF := by
  have h1 : SInv (Go.Proofs.Ytdiboicllolcnaa.laid D.firm (D.wait.take (keepN D keep))) f M m half bF := h.laid _ fun x hx => hw x (List.mem_of_mem_take hx)
  unfold crashL
  split
  · rename_i x hx
    have hm := List.mem_of_getElem? hx
    have hxl := hg.lies x hm
    rw [← hg.same, ← laid_len D.firm (D.wait.take (keepN D keep))] at hxl
    exact h1.set (Harm.torn h1 (hw x hm) hxl (tearN tear) (by unfold tearN; omega))
  · exact h1
/-- the next mark is written. -/
theorem SInv.mark {S : List Sec} {f M m half half' : Nat} {bF b' : Sec} (h : SInv S f M m half bF) (hm : m < 4294967296) (hh : half' < 2) (hb : b'.length ≤ ((M - 2) / 2) * 64)
    (hd : ∀ j i X, S[f + 2 + half' * ((M - 2) / 2) + j]? = some X → i < 64 → j * 64 + i < b'.length → X[i]? = b'[j * 64 + i]?) : SInv (S.set (f + (m + 1) % 2) (markS (m + 1) half' b'.length)) f M (m + 1) half' b' := by
  have h2 := two_ways m
  have hlt : f + (m + 1) % 2 < S.length := by have := h.len; have := h.four; omega
  refine ⟨h.full.set _ _ (markS_len _ _ _), by rw [List.length_set]; exact h.len, h.four, hh, hb, h.disk, .inr ⟨by omega, by rw [List.getElem?_set_self hlt]⟩, ?_, ?_⟩
  · have e : (m + 1 + 1) % 2 = m % 2 := by omega
    rw [e, List.getElem?_set_ne (by omega)]
    rcases h.markA with ⟨rfl, _, _, h4⟩ | ⟨h0, h4⟩
    · exact ⟨zsec, h4, by decide, .inr (.inl rfl)⟩
    · refine ⟨_, h4, ?_, .inl ?_⟩
      · have e1 : (markS m half bF.length)[63]? = some (byteN m 0) := rfl
        rw [e1]
        intro e2
        have e3 := congrArg UInt8.toNat (Option.some.inj e2)
        rw [byteN_nat, byteN_nat] at e3
        simp only [Nat.pow_zero, Nat.div_one] at e3
        omega
      · rw [markS_drop, num_be8 m (by omega)]
        omega
  · intro j i X hX hi hj
    rw [List.getElem?_set_ne (by omega)] at hX
    exact hd j i X hX hi hj
/-- the next mark is torn. -/
theorem SInv.tear {S : List Sec} {f M m half half' F : Nat} {bF : Sec} (h : SInv S f M m half bF) (t : Nat) (ht : t < 64) : SInv (S.set (f + (m + 1) % 2) (torn (S.getD (f + (m + 1) % 2) []) (markS (m + 1) half' F) t)) f M m half bF := by
  have h2 := two_ways m
  have hlt : f + (m + 1) % 2 < S.length := by have := h.len; have := h.four; omega
  obtain ⟨X, hX, h63, hv⟩ := h.markB
  have e : S.getD (f + (m + 1) % 2) [] = X := by rw [List.getD_eq_getElem?_getD, hX]; rfl
  have hl : X.length = 64 := h.full _ (List.mem_of_getElem? hX)
  have hml := markS_len (m + 1) half' F
  rw [e]
  have htl : (torn X (markS (m + 1) half' F) t).length = 64 := torn_len hl hml t (by omega)
  refine ⟨h.full.set _ _ htl, by rw [List.length_set]; exact h.len, h.four, h.hlf, h.fits, h.disk, ?_, ⟨_, by rw [List.getElem?_set_self hlt], ?_, ?_⟩, ?_⟩
  · rcases h.markA with ⟨h1, h3, h4, h5⟩ | ⟨h1, h3⟩
    · subst h1
      exact .inl ⟨rfl, h3, h4, by rw [List.getElem?_set_ne (by omega)]; exact h5⟩
    · exact .inr ⟨h1, by rw [List.getElem?_set_ne (by omega)]; exact h3⟩
  · rw [torn_get hl hml, if_neg (by omega)]
    exact h63
  · by_cases h8 : 8 ≤ t
    · refine .inr (.inr ?_)
      rw [← markS_take (m + 1) half' F]
      apply List.ext_getElem?
      intro i
      rw [List.getElem?_take, List.getElem?_take]
      split
      · rw [torn_get hl hml, if_pos (by omega)]
      · rfl
    · have e1 : (torn X (markS (m + 1) half' F) t).drop 56 = X.drop 56 := by
        apply List.ext_getElem?
        intro i
        rw [List.getElem?_drop, List.getElem?_drop, torn_get hl hml, if_neg (by omega)]
      rw [e1]
      rcases hv with hv | hv | hv
      · exact .inl hv
      · exact .inr (.inl hv)
      · refine .inr (.inr ?_)
        rw [← hv]
        apply List.ext_getElem?
        intro i
        rw [List.getElem?_take, List.getElem?_take]
        split
        · rw [torn_get hl hml]
          split
          · have h9 := congrArg (fun l => l[i]?) (hv.trans (markS_take (m + 1) half' F).symm)
            simp only [List.getElem?_take] at h9
            rw [if_pos (by omega), if_pos (by omega)] at h9
            exact h9.symm
          · rfl
        · rfl
  · intro j i Y hY hi hj
    rw [List.getElem?_set_ne (by omega)] at hY
    exact h.data j i Y hY hi hj
end Go.Proofs.Ytdiboicllolcnaa
