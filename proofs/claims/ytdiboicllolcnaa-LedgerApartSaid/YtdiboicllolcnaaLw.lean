/- ledger: what stays true of what lies on the sectors, call by call, and what a crash leaves, in plain words. Conditions: as in each statement. -/
import Derived.Test.YtdiboicllolcnaaLv
namespace Go.Proofs.Ytdiboicllolcnaa
open Go Go.RowKit
set_option linter.unusedVariables false
set_option linter.unusedSimpArgs false
variable {w w' : World} {base n nd b0 : Nat} {V V' : Vl} {VD VD' : Vs} {D D' : Dk} {G G' : Lg}
/-- a half's sectors begin with these bytes. -/
def Data (S : List Sec) (f M half : Nat) (b : Sec) : Prop := ∀ j i X, S[f + 2 + half * ((M - 2) / 2) + j]? = some X → i < 64 → j * 64 + i < b.length → X[i]? = b[j * 64 + i]?
theorem pad_get {c : Sec} {i : Nat} (h : i < c.length) : (pad c)[i]? = c[i]? := by unfold pad; rw [List.getElem?_append_left h]
theorem chunk_get (b : Sec) (j i : Nat) (hi : i < 64) (h : j * 64 + i < b.length) : (pad (chunk b j))[i]? = b[j * 64 + i]? := by
  rw [pad_get (by rw [chunk_len]; omega)]
  unfold chunk
  rw [List.getElem?_take, if_pos hi, List.getElem?_drop]
/-- what writing bytes does to the disk. -/
theorem wrAll_fx {first : Nat} {b : Sec} : ∀ (fu k : Nat) (D : Dk), (∀ j, j * 64 < b.length → first + j < D.now.length) →
    (wrAll first b fu k D).1.firm = D.firm ∧
    (∀ x ∈ (wrAll first b fu k D).1.wait, x ∈ D.wait ∨ ∃ j, k ≤ j ∧ j * 64 < b.length ∧ x = (first + j, pad (chunk b j))) ∧
    (∀ p, (∀ j, k ≤ j → j * 64 < b.length → p ≠ first + j) → (wrAll first b fu k D).1.now[p]? = D.now[p]?) ∧
    ((wrAll first b fu k D).2 = true → b.length ≤ (k + fu) * 64 → ∀ j, k ≤ j → j * 64 < b.length → (wrAll first b fu k D).1.now[first + j]? = some (pad (chunk b j))) := by
  intro fu
  induction fu with
  | zero =>
    intro k D _
    exact ⟨rfl, fun x hx => .inl hx, fun _ _ => rfl, fun _ hl j hj hlt => by omega⟩
  | succ fu ih =>
    intro k D hfit
    unfold wrAll
    by_cases hk : k * 64 < b.length
    · rw [if_pos hk]
      have hfm : (wr1 D (first + k) (chunk b k)).firm = D.firm := by unfold wr1; rw [dies_firm]; rfl
      have hwt : (wr1 D (first + k) (chunk b k)).wait = D.wait ++ [(first + k, pad (chunk b k))] := by unfold wr1; rw [dies_wait]; rfl
      have hnw : (wr1 D (first + k) (chunk b k)).now = D.now.set (first + k) (pad (chunk b k)) := by unfold wr1; rw [dies_now]; rfl
      have hw1 : ∀ x ∈ (wr1 D (first + k) (chunk b k)).wait, x ∈ D.wait ∨ ∃ j, k ≤ j ∧ j * 64 < b.length ∧ x = (first + j, pad (chunk b j)) := by
        intro x hx
        rw [hwt] at hx
        rcases List.mem_append.1 hx with hx | hx
        · exact .inl hx
        · exact .inr ⟨k, Nat.le_refl _, hk, by simpa using hx⟩
      split
      · refine ⟨hfm, hw1, fun p hp => ?_, (fun h => by cases h)⟩
        show (wr1 D (first + k) (chunk b k)).now[p]? = _
        rw [hnw, List.getElem?_set_ne (Ne.symm (hp k (Nat.le_refl _) hk))]
      · obtain ⟨h1, h2, h3, h4⟩ := ih (k + 1) (wr1 D (first + k) (chunk b k)) (fun j hj => by rw [wr1_len]; exact hfit j hj)
        refine ⟨h1.trans hfm, fun x hx => ?_, fun p hp => ?_, fun hr hl j hj hlt => ?_⟩
        · rcases h2 x hx with hx | ⟨j, hj, hlt, rfl⟩
          · exact hw1 x hx
          · exact .inr ⟨j, by omega, hlt, rfl⟩
        · rw [h3 p (fun j hj hlt => hp j (by omega) hlt), hnw, List.getElem?_set_ne (Ne.symm (hp k (Nat.le_refl _) hk))]
        · by_cases e : j = k
          · subst e
            rw [h3 (first + j) (fun j' hj' _ => by omega), hnw, List.getElem?_set_self (hfit j hk)]
          · exact h4 hr (by rw [show k + 1 + fu = k + (fu + 1) by omega]; exact hl) j (by omega) hlt
    · rw [if_neg hk]
      exact ⟨rfl, fun x hx => .inl hx, fun _ _ => rfl, fun _ _ j hj hlt => by omega⟩
/-- what is true of a ledger that lives, between two calls; allF: what lasts. -/
structure RInv (D : Dk) (G : Lg) (f M : Nat) (allF : List ByteArray) : Prop where
  ok : Okl D G
  live : G.dead = false
  fr : G.from_ = f
  sz : G.size = (M - 2) / 2
  firm : SInv D.firm f M G.mark G.half (encL allF)
  wait : ∀ x ∈ D.wait, Harm f M G.half (encL allF) x
  short : longB allF = false
  pre : G.b.take (encL allF).length = encL allF
  now : Data D.now f M G.half G.b
theorem take_len {α : Type} {l p : List α} (h : l.take p.length = p) : p.length ≤ l.length := by
  have := congrArg List.length h
  rw [List.length_take] at this
  omega
theorem take_get {α : Type} {l p : List α} (h : l.take p.length = p) {i : Nat} (hi : i < p.length) : l[i]? = p[i]? := by
  have := congrArg (fun x => x[i]?) h
  simp only [List.getElem?_take] at this
  rwa [if_pos hi] at this
theorem firstG_is {f M half : Nat} (h1 : G.from_ = f) (h2 : G.size = (M - 2) / 2) : firstG G half = f + 2 + half * ((M - 2) / 2) := by unfold firstG; rw [h1, h2]
/-- a new record's bytes do no harm. -/
theorem harm_chunk {f M half : Nat} {bF b : Sec} (hp : b.take bF.length = bF) (j : Nat) (hl : (chunk b j).length ≤ 64) : Harm f M half bF (f + 2 + half * ((M - 2) / 2) + j, pad (chunk b j)) := by
  refine ⟨pad_len hl, by show f + 2 + half * ((M - 2) / 2) + j ≠ f; omega, by show f + 2 + half * ((M - 2) / 2) + j ≠ f + 1; omega, fun j' i hj hi hlt => ?_⟩
  have e : j' = j := by have : f + 2 + half * ((M - 2) / 2) + j = f + 2 + half * ((M - 2) / 2) + j' := hj; omega
  subst e
  have h1 := take_len hp
  show (pad (chunk b j'))[i]? = _
  rw [chunk_get b j' i hi (by omega)]
  exact take_get hp hlt
/-- nor do the other half's. -/
theorem harm_other {f M half : Nat} {bF : Sec} (hh : half < 2) (hF : bF.length ≤ ((M - 2) / 2) * 64) (j : Nat) (s : Sec) (hs : s.length = 64) (hj : j < (M - 2) / 2) : Harm f M half bF (f + 2 + (1 - half) * ((M - 2) / 2) + j, s) := by
  refine ⟨hs, by show f + 2 + (1 - half) * ((M - 2) / 2) + j ≠ f; omega, by show f + 2 + (1 - half) * ((M - 2) / 2) + j ≠ f + 1; omega, fun j' i e hi hlt => ?_⟩
  exfalso
  have e' : f + 2 + (1 - half) * ((M - 2) / 2) + j = f + 2 + half * ((M - 2) / 2) + j' := e
  have h2 : half = 0 ∨ half = 1 := by omega
  rcases h2 with rfl | rfl
  · simp only [Nat.sub_zero, Nat.one_mul, Nat.zero_mul] at e'
    omega
  · simp only [Nat.sub_self, Nat.one_mul, Nat.zero_mul] at e'
    omega
theorem append_law {f M : Nat} {allF : List ByteArray} {s : ByteArray} (h : RInv D G f M allF) (hn : appNo G s = 0) :
    ((appW D G s).2 = true → RInv (appD D G s) (appG D G s) f M allF) ∧ (∀ keep tear, SInv (crashL (appD D G s) keep tear) f M G.mark G.half (encL allF)) := by
  have y4 := app_room hn
  have hk := keeps_app s h.ok
  have hfirst : firstG G G.half = f + 2 + G.half * ((M - 2) / 2) := firstG_is h.fr h.sz
  have hbl : (G.b ++ frame s).length ≤ G.size * 64 := by rw [List.length_append, frame_len]; omega
  obtain ⟨x1, x2, x3, x4⟩ := wrAll_fx (b := G.b ++ frame s) (G.size + 1) (G.b.length / 64) D (fits_half h.ok.fits h.ok.fits.half hbl)
  have e1 : appD D G s = (appW D G s).1 := by unfold appD; rw [if_neg (by rw [hn]; decide)]
  have e3 : appW D G s = wrAll (firstG G G.half) (G.b ++ frame s) (G.size + 1) (G.b.length / 64) D := rfl
  rw [← e3, ← e1] at x1 x2 x3 x4
  have hpre : (G.b ++ frame s).take (encL allF).length = encL allF := by
    have := take_len h.pre
    rw [List.take_append_of_le_length this]; exact h.pre
  have hfi : SInv (appD D G s).firm f M G.mark G.half (encL allF) := by rw [x1]; exact h.firm
  have hwa : ∀ x ∈ (appD D G s).wait, Harm f M G.half (encL allF) x := by
    intro x hx
    rcases x2 x hx with hx | ⟨j, _, hj, rfl⟩
    · exact h.wait x hx
    · rw [hfirst]; exact harm_chunk hpre j (by rw [chunk_len]; omega)
  refine ⟨fun hw => ?_, fun keep tear => SInv.crash hk.ok.good hfi hwa keep tear⟩
  have e2 : appG D G s = { G with b := G.b ++ frame s, all := G.all ++ [s] } := by unfold appG; rw [if_neg (by rw [hn]; decide), if_pos hw]
  have hok := hk.ok
  rw [e2] at hok ⊢
  refine ⟨hok, h.live, h.fr, h.sz, hfi, hwa, h.short, hpre, ?_⟩
  intro j i X hX hi hlt0
  have hlt : j * 64 + i < (G.b ++ frame s).length := hlt0
  have hX' : (appD D G s).now[firstG G G.half + j]? = some X := by rw [hfirst]; exact hX
  by_cases hj : G.b.length / 64 ≤ j
  · have := x4 hw (by omega) j hj (by omega)
    rw [this] at hX'
    obtain rfl : pad (chunk (G.b ++ frame s) j) = X := Option.some.inj hX'
    exact chunk_get _ j i hi hlt
  · rw [x3 _ (fun j' hj' _ => by omega), hfirst] at hX'
    have hlt2 : j * 64 + i < G.b.length := by omega
    have := h.now j i X hX' hi hlt2
    show X[i]? = (G.b ++ frame s)[j * 64 + i]?
    rw [this, List.getElem?_append_left hlt2]
/-- the mark alone waits. -/
theorem crash_mark {S : List Sec} {f M m half half' : Nat} {bF b' : Sec} (hS : D.firm = S) (hw : D.wait = [(f + (m + 1) % 2, markS (m + 1) half' b'.length)]) (h : SInv S f M m half bF) (hm : m < 4294967295) (hh : half' < 2) (hb : b'.length ≤ ((M - 2) / 2) * 64)
    (hd : Data S f M half' b') (keep tear : Int) : SInv (crashL D keep tear) f M m half bF ∨ SInv (crashL D keep tear) f M (m + 1) half' b' := by
  have hk : keepN D keep = 0 ∨ keepN D keep = 1 := by unfold keepN; rw [hw]; simp only [List.length_singleton]; omega
  have hMK := h.mark (by omega) hh hb hd
  have h2 := two_ways m
  have hlt : f + (m + 1) % 2 < S.length := by have := h.len; have := h.four; omega
  unfold crashL
  rcases hk with hk | hk
  · rw [hk, hw]
    simp only [List.getElem?_cons_zero, List.take_zero]
    show SInv (List.set (laid D.firm []) _ _) _ _ _ _ _ ∨ SInv (List.set (laid D.firm []) _ _) _ _ _ _ _
    have e0 : laid D.firm [] = S := hS
    rw [e0]
    by_cases ht : tearN tear < 64
    · exact .inl (h.tear _ ht)
    · right
      have hl : (S.getD (f + (m + 1) % 2) []).length = 64 := by
        rw [List.getD_eq_getElem?_getD, List.getElem?_eq_getElem hlt]
        exact h.full _ (List.getElem_mem hlt)
      have e : torn (S.getD (f + (m + 1) % 2) []) (markS (m + 1) half' b'.length) (tearN tear) = markS (m + 1) half' b'.length := by
        unfold torn
        rw [List.take_of_length_le (by rw [markS_len]; omega), List.drop_of_length_le (by omega), List.append_nil]
      rw [e]
      exact hMK
  · rw [hk, hw]
    right
    show SInv (laid D.firm [(f + (m + 1) % 2, markS (m + 1) half' b'.length)]) _ _ _ _ _
    rw [hS]
    exact hMK
/-- what seal does to what lies on the sectors. -/
theorem seal_law {f M half' : Nat} {bF b' : Sec} (hg : Good D) (hf : Fits G D) (hd : D.dead = false) (h1 : G.from_ = f) (h2 : G.size = (M - 2) / 2) (h : SInv D.firm f M G.mark G.half bF) (hw : ∀ x ∈ D.wait, Harm f M G.half bF x)
    (hm : G.mark < 4294967295) (hh : half' < 2) (hb : b'.length ≤ ((M - 2) / 2) * 64) (hdt : Data D.now f M half' b') :
    ((sealR D G half' b'.length).2 = true → SInv (sealR D G half' b'.length).1.firm f M (G.mark + 1) half' b' ∧ (sealR D G half' b'.length).1.wait = [] ∧ (sealR D G half' b'.length).1.now = (sealR D G half' b'.length).1.firm) ∧
    ((sealR D G half' b'.length).2 = false → ∀ keep tear, SInv (crashL (sealR D G half' b'.length).1 keep tear) f M G.mark G.half bF ∨ SInv (crashL (sealR D G half' b'.length).1 keep tear) f M (G.mark + 1) half' b') := by
  have hN : nextM G.mark = G.mark + 1 := nextM_small (by omega)
  have hK : markK G = f + (G.mark + 1) % 2 := by unfold markK; rw [hN, h1]
  rw [sealR_is half' b'.length hf hd, hN, hK]
  have hml := markS_len (G.mark + 1) half' b'.length
  cases hb0 : diesB D with
  | true =>
    rw [if_pos rfl]
    refine ⟨(fun e => by cases e), fun _ keep tear => .inl ?_⟩
    have e1 : syncD D = diesD D := by rw [syncD_is hd, if_pos hb0]
    show SInv (crashL (syncD D) keep tear) _ _ _ _ _
    rw [e1]
    exact SInv.crash (good_dies hg) (by rw [dies_firm]; exact h) (by rw [dies_wait]; exact hw) keep tear
  | false =>
    rw [if_neg (by decide)]
    have e1 : syncD D = { diesD D with firm := laid D.firm D.wait, wait := [] } := by rw [syncD_is hd, if_neg (by rw [hb0]; decide)]
    have f1 : (syncD D).firm = D.now := by rw [e1]; exact hg.is.symm
    have w1 : (syncD D).wait = [] := by rw [e1]
    have n1 : (syncD D).now = D.now := sync_now D
    have s1 : SInv (syncD D).firm f M G.mark G.half bF := by rw [f1, hg.is]; exact h.laid _ hw
    have hd1 : (syncD D).dead = false := by rw [sync_dead hd, hb0]
    have hg1 := good_sync hg
    obtain ⟨D1, hD1⟩ : ∃ D1, D1 = syncD D := ⟨_, rfl⟩
    rw [← hD1] at f1 w1 n1 s1 hd1 hg1 ⊢
    obtain ⟨k, hk⟩ : ∃ k, k = f + (G.mark + 1) % 2 := ⟨_, rfl⟩
    obtain ⟨mk, hmk⟩ : ∃ mk, mk = markS (G.mark + 1) half' b'.length := ⟨_, rfl⟩
    rw [← hmk] at hml
    have f2 : (wr1 D1 k mk).firm = D1.firm := by unfold wr1; rw [dies_firm]; rfl
    have w2 : (wr1 D1 k mk).wait = [(k, mk)] := by unfold wr1; rw [dies_wait]; show D1.wait ++ [(k, pad mk)] = _; rw [w1, pad_full hml]; rfl
    have hdt1 : Data D1.firm f M half' b' := by rw [f1]; exact hdt
    rw [← hk, ← hmk]
    have hcr : ∀ (D2 : Dk), D2.firm = D1.firm → D2.wait = [(k, mk)] → ∀ keep tear, SInv (crashL D2 keep tear) f M G.mark G.half bF ∨ SInv (crashL D2 keep tear) f M (G.mark + 1) half' b' := fun D2 a1 a2 keep tear => crash_mark a1 (by rw [a2, hk, hmk]) s1 hm hh hb hdt1 keep tear
    cases hb1 : diesB D1 with
    | true =>
      rw [if_pos rfl]
      exact ⟨(fun e => by cases e), fun _ keep tear => hcr _ f2 w2 keep tear⟩
    | false =>
      rw [if_neg (by decide)]
      have hd2 : (wr1 D1 k mk).dead = false := by rw [wr1_dead _ _ hd1, hb1]
      have e3 := syncD_is hd2
      cases hb2 : diesB (wr1 D1 k mk) with
      | true =>
        rw [hb2, if_pos rfl] at e3
        refine ⟨(fun e => by cases e), fun _ keep tear => ?_⟩
        show SInv (crashL (syncD (wr1 D1 k mk)) keep tear) _ _ _ _ _ ∨ SInv (crashL (syncD (wr1 D1 k mk)) keep tear) _ _ _ _ _
        rw [e3]
        exact hcr _ (by rw [dies_firm]; exact f2) (by rw [dies_wait]; exact w2) keep tear
      | false =>
        rw [hb2, if_neg (by decide)] at e3
        refine ⟨fun _ => ?_, (fun e => by cases e)⟩
        have hlt : k < D1.now.length := by
          have := s1.len; have := s1.four; have := hg1.same; have := two_ways G.mark; omega
        have g2 := good_wr1 hg1 k mk hlt (by omega)
        show SInv (syncD (wr1 D1 k mk)).firm _ _ _ _ _ ∧ (syncD (wr1 D1 k mk)).wait = [] ∧ (syncD (wr1 D1 k mk)).now = (syncD (wr1 D1 k mk)).firm
        refine ⟨?_, by rw [e3], ?_⟩
        · rw [e3]
          show SInv (laid (wr1 D1 k mk).firm (wr1 D1 k mk).wait) _ _ _ _ _
          rw [f2, w2, hk, hmk]
          exact s1.mark (by omega) hh hb hdt1
        · rw [sync_now, e3]
          exact g2.is
end Go.Proofs.Ytdiboicllolcnaa
