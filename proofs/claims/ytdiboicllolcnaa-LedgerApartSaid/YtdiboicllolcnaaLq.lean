/- ledger: what stays true of a ledger and its disk, in plain words. Conditions: as in each statement. -/
import Derived.Test.YtdiboicllolcnaaLp
namespace Go.Proofs.Ytdiboicllolcnaa
open Go Go.RowKit
set_option linter.unusedVariables false
set_option linter.unusedSimpArgs false
variable {w w' : World} {base n nd b0 : Nat} {V V' : Vl} {VD VD' : Vs} {D D' : Dk} {G G' : Lg}
theorem sync_now (D : Dk) : (syncD D).now = D.now := by
  unfold syncD
  split
  · rfl
  · split <;> simp [dies_now]
theorem syncE_is (hd : D.dead = false) : syncE D = if diesB D then 40 else 0 := by unfold syncE; rw [if_neg (by rw [hd]; decide)]
theorem syncD_is (hd : D.dead = false) : syncD D = if diesB D then diesD D else { diesD D with firm := laid D.firm D.wait, wait := [] } := by unfold syncD; rw [if_neg (by rw [hd]; decide)]
theorem sync_dead (hd : D.dead = false) : (syncD D).dead = diesB D := by
  rw [syncD_is hd]
  split
  · exact dies_dead D hd
  · exact dies_dead D hd
theorem pad_full {s : Sec} (h : s.length = 64) : pad s = s := by unfold pad; rw [h]; simp
/-- where the next mark lies. -/
def markK (G : Lg) : Nat := G.from_ + nextM G.mark % 2
theorem markK_lt (hf : Fits G D) : markK G < D.now.length := by
  have := hf.size
  have := hf.size0
  unfold markK
  omega
/-- seal, where the disk lived. -/
theorem sealR_is (half firm : Nat) (hf : Fits G D) (hd : D.dead = false) : sealR D G half firm =
    if diesB D then (syncD D, false) else if diesB (syncD D) then (wr1 (syncD D) (markK G) (markS (nextM G.mark) half firm), false)
    else (syncD (wr1 (syncD D) (markK G) (markS (nextM G.mark) half firm)), !diesB (wr1 (syncD D) (markK G) (markS (nextM G.mark) half firm))) := by
  unfold sealR
  rw [syncE_is hd]
  cases hb : diesB D with
  | true => simp
  | false =>
    have hd1 : (syncD D).dead = false := by rw [sync_dead hd, hb]
    have hk : markK G < (syncD D).now.length := by rw [sync_now]; exact markK_lt hf
    obtain ⟨h1, h2⟩ := wr1_of (markK G) (markS (nextM G.mark) half firm) hd1 hk (by rw [markS_len]; exact Nat.le_refl _)
    rw [markS_len] at h2
    have e : ((G.from_ + nextM G.mark % 2 : Nat) : Int) = ((markK G : Nat) : Int) := rfl
    rw [e, h1, h2]
    cases hb1 : diesB (syncD D) with
    | true => simp
    | false =>
      have hd2 : (wr1 (syncD D) (markK G) (markS (nextM G.mark) half firm)).dead = false := by rw [wr1_dead _ _ hd1, hb1]
      rw [syncE_is hd2]
      simp
theorem seal_good (half firm : Nat) (hf : Fits G D) (hg : Good D) (hd : D.dead = false) :
    Good (sealR D G half firm).1 ∧ (sealR D G half firm).1.now.length = D.now.length ∧ (sealR D G half firm).1.wait.length ≤ D.wait.length + 1 ∧ (sealR D G half firm).1.dead = !(sealR D G half firm).2 := by
  have hk : markK G < (syncD D).now.length := by rw [sync_now]; exact markK_lt hf
  have hg1 := good_sync hg
  have hw1 := sync_wait D
  have hg2 := good_wr1 hg1 (markK G) (markS (nextM G.mark) half firm) hk (by rw [markS_len]; exact Nat.le_refl _)
  have hl2 := wr1_len (syncD D) (markK G) (markS (nextM G.mark) half firm)
  have hw2 := wr1_wait (syncD D) (markK G) (markS (nextM G.mark) half firm)
  rw [sync_now] at hl2
  rw [sealR_is half firm hf hd]
  cases hb : diesB D with
  | true => exact ⟨hg1, by rw [if_pos rfl, sync_now], by rw [if_pos rfl]; show (syncD D).wait.length ≤ _; omega, by rw [if_pos rfl]; show (syncD D).dead = true; rw [sync_dead hd, hb]⟩
  | false =>
    have hd1 : (syncD D).dead = false := by rw [sync_dead hd, hb]
    have hd2 := wr1_dead (markK G) (markS (nextM G.mark) half firm) hd1
    rw [if_neg (by decide)]
    cases hb1 : diesB (syncD D) with
    | true => exact ⟨hg2, hl2, by rw [if_pos rfl]; show (wr1 (syncD D) _ _).wait.length ≤ _; omega, by rw [if_pos rfl]; show (wr1 (syncD D) _ _).dead = true; rw [hd2, hb1]⟩
    | false =>
      rw [if_neg (by decide)]
      rw [hb1] at hd2
      have hw3 := sync_wait (wr1 (syncD D) (markK G) (markS (nextM G.mark) half firm))
      exact ⟨good_sync hg2, by show (syncD (wr1 (syncD D) _ _)).now.length = _; rw [sync_now]; exact hl2, by show (syncD (wr1 (syncD D) _ _)).wait.length ≤ _; omega, by show (syncD (wr1 (syncD D) _ _)).dead = !!_; rw [sync_dead hd2, Bool.not_not]⟩
/-- what stays true of a ledger and its disk. -/
structure Okl (D : Dk) (G : Lg) : Prop where
  good : Good D
  fits : Fits G D
  dead : D.dead = G.dead
  enc : G.b = encL G.all
  short : longB G.all = false
theorem encL_count (xs : List ByteArray) : xs.length * 4 ≤ (encL xs).length := by
  induction xs with
  | nil => simp [encL]
  | cons s l ih =>
    have hf := frame_len s
    unfold encL at ih ⊢
    rw [List.flatMap_cons, List.length_append, List.length_cons]
    omega
theorem Okl.count (h : Okl D G) : G.all.length * 4 ≤ G.size * 64 := by
  have h1 := encL_count G.all
  have h2 := h.fits.b
  rw [h.enc] at h2
  omega
theorem Okl.size (h : Okl D G) : G.size ≤ 32767 := by
  have h1 := h.fits.size
  have h2 := h.fits.disk
  omega
/-- what a call keeps. -/
structure Keeps (D D' : Dk) (G G' : Lg) : Prop where
  ok : Okl D' G'
  from_ : G'.from_ = G.from_
  size : G'.size = G.size
  len : D'.now.length = D.now.length
  wait : D'.wait.length ≤ D.wait.length + G.size + 2
theorem Keeps.refl (h : Okl D G) : Keeps D D G G := ⟨h, rfl, rfl, rfl, by omega⟩
theorem fits_of (hf : Fits G D) (hl : D'.now.length = D.now.length) (h1 : G'.from_ = G.from_) (h2 : G'.size = G.size) (h3 : G'.half < 2) (h4 : G'.b.length ≤ G'.size * 64) : Fits G' D' :=
  ⟨by rw [h2]; exact hf.size0, by rw [h1, h2, hl]; exact hf.size, by rw [hl]; exact hf.disk, h3, h4⟩
theorem keeps_app (s : ByteArray) (h : Okl D G) : Keeps D (appD D G s) G (appG D G s) := by
  by_cases hn : appNo G s = 0
  · obtain ⟨y1, y2, y3⟩ := app_yes hn
    have y4 := app_room hn
    have hbl : (G.b ++ frame s).length ≤ G.size * 64 := by rw [List.length_append, frame_len]; omega
    obtain ⟨g1, g2, g3, g4⟩ := wrAll_good (b := G.b ++ frame s) (G.size + 1) (G.b.length / 64) D h.good (by rw [h.dead, y1]) (fits_half h.fits h.fits.half hbl)
    have e1 : appD D G s = (appW D G s).1 := by unfold appD; rw [if_neg (by rw [hn]; decide)]
    have e2 : appG D G s = if (appW D G s).2 then { G with b := G.b ++ frame s, all := G.all ++ [s] } else { G with dead := true } := by unfold appG; rw [if_neg (by rw [hn]; decide)]
    rw [e1, e2]
    cases hw : (appW D G s).2 with
    | true =>
      unfold appW at hw ⊢
      rw [hw] at g4
      rw [if_pos rfl]
      exact ⟨⟨g1, fits_of h.fits g2 rfl rfl h.fits.half hbl, by rw [g4, y1]; rfl, by rw [encL_snoc, ← h.enc], by rw [longB_app, h.short]; simp [longB]; exact y2⟩, rfl, rfl, g2, by omega⟩
    | false =>
      unfold appW at hw ⊢
      rw [hw] at g4
      rw [if_neg (by decide)]
      exact ⟨⟨g1, fits_of h.fits g2 rfl rfl h.fits.half h.fits.b, by rw [g4]; rfl, h.enc, h.short⟩, rfl, rfl, g2, by omega⟩
  · have e1 : appD D G s = D := by unfold appD; rw [if_pos hn]
    have e2 : appG D G s = G := by unfold appG; rw [if_pos hn]
    rw [e1, e2]
    exact Keeps.refl h
theorem keeps_sync (h : Okl D G) : Keeps D (lsyD D G) G (lsyG D G) := by
  cases hG : G.dead with
  | true =>
    have e1 : lsyD D G = D := by unfold lsyD; rw [if_pos hG]
    have e2 : lsyG D G = G := by unfold lsyG; rw [if_pos hG]
    rw [e1, e2]
    exact Keeps.refl h
  | false =>
    have e1 : lsyD D G = (sealR D G G.half G.b.length).1 := by unfold lsyD; rw [if_neg (by rw [hG]; decide)]
    have e2 : lsyG D G = sealG D G G.half G.b.length := by unfold lsyG; rw [if_neg (by rw [hG]; decide)]
    obtain ⟨g1, g2, g3, g4⟩ := seal_good G.half G.b.length h.fits h.good (by rw [h.dead, hG])
    rw [e1, e2]
    unfold sealG
    cases hw : (sealR D G G.half G.b.length).2 with
    | true =>
      rw [hw] at g4
      rw [if_pos rfl]
      exact ⟨⟨g1, fits_of h.fits g2 rfl rfl h.fits.half h.fits.b, by rw [g4, hG]; rfl, h.enc, h.short⟩, rfl, rfl, g2, by omega⟩
    | false =>
      rw [hw] at g4
      rw [if_neg (by decide)]
      exact ⟨⟨g1, fits_of h.fits g2 rfl rfl h.fits.half h.fits.b, by rw [g4]; rfl, h.enc, h.short⟩, rfl, rfl, g2, by omega⟩
theorem rep_yes {xs : List ByteArray} (h : repNo G xs = 0) : G.dead = false ∧ longB xs = false ∧ (encL xs).length ≤ G.size * 64 := by
  unfold repNo at h
  split at h
  · cases h
  · rename_i h0
    split at h
    · cases h
    · rename_i h1
      split at h
      · cases h
      · exact ⟨by simpa using h0, by simpa using h1, by omega⟩
theorem keeps_rep (xs : List ByteArray) (h : Okl D G) : Keeps D (repD D G xs) G (repG D G xs) := by
  by_cases hn : repNo G xs = 0
  · obtain ⟨y1, y2, y3⟩ := rep_yes hn
    have hh := h.fits.half
    have hh1 : 1 - G.half < 2 := by omega
    obtain ⟨g1, g2, g3, g4⟩ := wrAll_good (b := encL xs) (G.size + 1) 0 D h.good (by rw [h.dead, y1]) (fits_half h.fits hh1 y3)
    have e1 : repD D G xs = if (repW D G xs).2 then (sealR (repW D G xs).1 G (1 - G.half) (encL xs).length).1 else (repW D G xs).1 := by unfold repD; rw [if_neg (by rw [hn]; decide)]
    have e2 : repG D G xs = if (repW D G xs).2 then (if (sealR (repW D G xs).1 G (1 - G.half) (encL xs).length).2 then { G with mark := nextM G.mark, half := 1 - G.half, firm := (encL xs).length, b := encL xs, all := xs } else { G with dead := true }) else { G with dead := true } := by unfold repG; rw [if_neg (by rw [hn]; decide)]
    rw [e1, e2]
    obtain ⟨r, hr⟩ : ∃ r, r = repW D G xs := ⟨_, rfl⟩
    have hr' : r = wrAll (firstG G (1 - G.half)) (encL xs) (G.size + 1) 0 D := hr
    rw [← hr'] at g1 g2 g3 g4
    rw [← hr]
    cases hw : r.2 with
    | true =>
      rw [hw] at g4
      obtain ⟨k1, k2, k3, k4⟩ := seal_good (1 - G.half) (encL xs).length (fits_of h.fits g2 rfl rfl hh h.fits.b) g1 g4
      rw [if_pos rfl, if_pos rfl]
      cases hs : (sealR r.1 G (1 - G.half) (encL xs).length).2 with
      | true =>
        rw [hs] at k4
        rw [if_pos rfl]
        exact ⟨⟨k1, fits_of h.fits (k2.trans g2) rfl rfl hh1 y3, by rw [k4, y1]; rfl, rfl, y2⟩, rfl, rfl, k2.trans g2, by omega⟩
      | false =>
        rw [hs] at k4
        rw [if_neg (by decide)]
        exact ⟨⟨k1, fits_of h.fits (k2.trans g2) rfl rfl hh h.fits.b, by rw [k4]; rfl, h.enc, h.short⟩, rfl, rfl, k2.trans g2, by omega⟩
    | false =>
      rw [hw] at g4
      rw [if_neg (by decide), if_neg (by decide)]
      exact ⟨⟨g1, fits_of h.fits g2 rfl rfl hh h.fits.b, by rw [g4]; rfl, h.enc, h.short⟩, rfl, rfl, g2, by omega⟩
  · have e1 : repD D G xs = D := by unfold repD; rw [if_pos hn]
    have e2 : repG D G xs = G := by unfold repG; rw [if_pos hn]
    rw [e1, e2]
    exact Keeps.refl h
theorem keeps_step (o : Op5) (h : Okl D G) : Keeps D (stepL o D G).1 G (stepL o D G).2.1 := by
  unfold stepL
  split
  · exact keeps_app o.s h
  · split
    · exact keeps_sync h
    · split
      · exact keeps_rep o.all h
      · exact Keeps.refl h
end Go.Proofs.Ytdiboicllolcnaa
