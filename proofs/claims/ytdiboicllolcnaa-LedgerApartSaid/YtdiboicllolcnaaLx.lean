/- ledger: a call keeps what is true; what a crash leaves of one that was cut off; a ledger that is opened, in plain words. Conditions: as in each statement. -/
import Derived.Test.YtdiboicllolcnaaLw
namespace Go.Proofs.Ytdiboicllolcnaa
open Go Go.RowKit
set_option linter.unusedVariables false
set_option linter.unusedSimpArgs false
variable {w w' : World} {base n nd b0 : Nat} {V V' : Vl} {VD VD' : Vs} {D D' : Dk} {G G' : Lg}
theorem sync_law {f M : Nat} {allF : List ByteArray} (h : RInv D G f M allF) (hm : G.mark < 4294967295) :
    (lsyB D G = true → RInv (lsyD D G) (lsyG D G) f M G.all ∧ (lsyG D G).all = G.all ∧ (lsyG D G).mark = G.mark + 1 ∧ (lsyD D G).wait = []) ∧
    (lsyB D G = false → (lsyG D G).dead = true ∧ ∀ keep tear, SInv (crashL (lsyD D G) keep tear) f M G.mark G.half (encL allF) ∨ SInv (crashL (lsyD D G) keep tear) f M (G.mark + 1) G.half (encL G.all)) := by
  have hl := h.live
  have hb : G.b.length ≤ ((M - 2) / 2) * 64 := by rw [← h.sz]; exact h.ok.fits.b
  have hk := keeps_sync h.ok
  obtain ⟨a1, a2⟩ := seal_law (b' := G.b) h.ok.good h.ok.fits (by rw [h.ok.dead, hl]) h.fr h.sz h.firm h.wait hm h.ok.fits.half hb h.now
  have e1 : lsyD D G = (sealR D G G.half G.b.length).1 := by unfold lsyD; rw [if_neg (by rw [hl]; decide)]
  have e2 : lsyG D G = sealG D G G.half G.b.length := by unfold lsyG; rw [if_neg (by rw [hl]; decide)]
  have e3 : lsyB D G = (sealR D G G.half G.b.length).2 := by unfold lsyB; rw [hl]; rfl
  rw [← e1, ← e3] at a1
  rw [← e1, ← e3] at a2
  rw [← h.ok.enc]
  refine ⟨fun hs => ?_, fun hs => ⟨?_, a2 hs⟩⟩
  · obtain ⟨b1, b2, b3⟩ := a1 hs
    have e4 : lsyG D G = { G with mark := G.mark + 1, half := G.half, firm := G.b.length } := by rw [e2]; unfold sealG; rw [if_pos (by rw [← e3]; exact hs), nextM_small (by omega)]
    have hok := hk.ok
    rw [e4] at hok ⊢
    refine ⟨⟨hok, hl, h.fr, h.sz, by rw [← h.ok.enc]; exact b1, (fun x hx => by rw [b2] at hx; cases hx), h.ok.short, ?_, ?_⟩, rfl, rfl, b2⟩
    · rw [← h.ok.enc]; exact List.take_of_length_le (Nat.le_refl _)
    · rw [b3]
      exact b1.data
  · rw [e2]
    unfold sealG
    rw [if_neg (by rw [← e3, hs]; decide)]
theorem rep_law {f M : Nat} {allF : List ByteArray} {xs : List ByteArray} (h : RInv D G f M allF) (hm : G.mark < 4294967295) (hn : repNo G xs = 0) :
    (repE D G xs = 0 → RInv (repD D G xs) (repG D G xs) f M xs ∧ (repG D G xs).all = xs ∧ (repG D G xs).mark = G.mark + 1 ∧ (repD D G xs).wait = []) ∧
    (repE D G xs ≠ 0 → repE D G xs = 40 ∧ (repG D G xs).dead = true ∧ ∀ keep tear, SInv (crashL (repD D G xs) keep tear) f M G.mark G.half (encL allF) ∨ SInv (crashL (repD D G xs) keep tear) f M (G.mark + 1) (1 - G.half) (encL xs)) := by
  obtain ⟨y1, y2, y3⟩ := rep_yes hn
  have hh := h.ok.fits.half
  have hh1 : 1 - G.half < 2 := by omega
  have hk := keeps_rep xs h.ok
  have hfirst : firstG G (1 - G.half) = f + 2 + (1 - G.half) * ((M - 2) / 2) := firstG_is h.fr h.sz
  obtain ⟨x1, x2, x3, x4⟩ := wrAll_fx (b := encL xs) (G.size + 1) 0 D (fits_half h.ok.fits hh1 y3)
  obtain ⟨g1, g2, g3, g4⟩ := wrAll_good (b := encL xs) (G.size + 1) 0 D h.ok.good (by rw [h.ok.dead, y1]) (fits_half h.ok.fits hh1 y3)
  have e0 : repW D G xs = wrAll (firstG G (1 - G.half)) (encL xs) (G.size + 1) 0 D := rfl
  rw [← e0] at x1 x2 x3 x4 g1 g2 g3 g4
  have e1 : repD D G xs = if (repW D G xs).2 then (sealR (repW D G xs).1 G (1 - G.half) (encL xs).length).1 else (repW D G xs).1 := by unfold repD; rw [if_neg (by rw [hn]; decide)]
  have e2 : repG D G xs = if (repW D G xs).2 then (if (sealR (repW D G xs).1 G (1 - G.half) (encL xs).length).2 then { G with mark := nextM G.mark, half := 1 - G.half, firm := (encL xs).length, b := encL xs, all := xs } else { G with dead := true }) else { G with dead := true } := by unfold repG; rw [if_neg (by rw [hn]; decide)]
  have e3 : repE D G xs = if (repW D G xs).2 then (if (sealR (repW D G xs).1 G (1 - G.half) (encL xs).length).2 then 0 else 40) else 40 := by unfold repE; rw [if_neg (by rw [hn]; decide)]
  have hok := hk.ok
  rw [e2] at hok
  rw [e1] at hok
  rw [e1, e2, e3]
  obtain ⟨r, hr⟩ : ∃ r, r = repW D G xs := ⟨_, rfl⟩
  rw [← hr] at x1 x2 x3 x4 g1 g2 g3 g4 hok ⊢
  have hfi : SInv r.1.firm f M G.mark G.half (encL allF) := by rw [x1]; exact h.firm
  have y3' : (encL xs).length ≤ ((M - 2) / 2) * 64 := by rw [← h.sz]; exact y3
  have hwa : ∀ x ∈ r.1.wait, Harm f M G.half (encL allF) x := by
    intro x hx
    rcases x2 x hx with hx | ⟨j, _, hj, rfl⟩
    · exact h.wait x hx
    · rw [hfirst]; exact harm_other hh h.firm.fits j _ (pad_len (by rw [chunk_len]; omega)) (by omega)
  cases hw : r.2 with
  | false =>
    rw [if_neg (by decide), if_neg (by decide), if_neg (by decide)]
    exact ⟨(fun e => by cases e), fun _ => ⟨rfl, rfl, fun keep tear => .inl (SInv.crash g1 hfi hwa keep tear)⟩⟩
  | true =>
    rw [hw] at hok g4
    rw [if_pos rfl, if_pos rfl] at hok
    rw [if_pos rfl, if_pos rfl, if_pos rfl]
    have hdt : Data r.1.now f M (1 - G.half) (encL xs) := by
      intro j i X hX hi hlt
      rw [← hfirst] at hX
      rw [x4 hw (by omega) j (Nat.zero_le _) (by omega)] at hX
      obtain rfl := Option.some.inj hX
      exact chunk_get _ j i hi hlt
    have hf2 : Fits G r.1 := fits_of h.ok.fits g2 rfl rfl hh h.ok.fits.b
    obtain ⟨a1, a2⟩ := seal_law (b' := encL xs) g1 hf2 g4 h.fr h.sz hfi hwa hm hh1 y3' hdt
    cases hs : (sealR r.1 G (1 - G.half) (encL xs).length).2 with
    | false =>
      rw [if_neg (by decide), if_neg (by decide)]
      exact ⟨(fun e => by cases e), fun _ => ⟨rfl, rfl, a2 hs⟩⟩
    | true =>
      obtain ⟨b1, b2, b3⟩ := a1 hs
      rw [hs, if_pos rfl, nextM_small (by omega)] at hok
      rw [if_pos rfl, if_pos rfl, nextM_small (by omega)]
      refine ⟨fun _ => ⟨⟨hok, y1, h.fr, h.sz, b1, (fun x hx => by rw [b2] at hx; cases hx), y2, List.take_of_length_le (Nat.le_refl _), ?_⟩, rfl, rfl, b2⟩, fun e => absurd rfl e⟩
      rw [b3]
      exact b1.data
theorem no_val (G : Lg) (s : ByteArray) (hl : G.dead = false) : appNo G s = 0 ∨ appNo G s = 52 ∨ appNo G s = 51 := by
  unfold appNo
  rw [hl, if_neg (by decide)]
  split
  · exact .inr (.inl rfl)
  · split
    · exact .inr (.inr rfl)
    · exact .inl rfl
theorem rno_val (G : Lg) (xs : List ByteArray) (hl : G.dead = false) : repNo G xs = 0 ∨ repNo G xs = 52 ∨ repNo G xs = 51 := by
  unfold repNo
  rw [hl, if_neg (by decide)]
  split
  · exact .inr (.inl rfl)
  · split
    · exact .inr (.inr rfl)
    · exact .inl rfl
/-- what a call does to what lasts. -/
structure StepL (D : Dk) (G : Lg) (f M : Nat) (allF : List ByteArray) (o : Op5) (r : Dk × Lg × Int) : Prop where
  live : r.2.2 ≠ 40 → RInv r.1 r.2.1 f M (doN o r.2.2 (G.all, allF)).2 ∧ r.2.1.all = (doN o r.2.2 (G.all, allF)).1 ∧ r.2.1.mark ≤ G.mark + 1
  dead : r.2.2 = 40 → r.2.1.dead = true ∧ ∀ keep tear, ∃ m' half' allX, SInv (crashL r.1 keep tear) f M m' half' (encL allX) ∧ m' ≤ G.mark + 1 ∧ longB allX = false ∧ (allX = allF ∨ allX = nextN o (G.all, allF))
theorem RInv.good {f M : Nat} {allF : List ByteArray} (h : RInv D G f M allF) : Good D := h.ok.good
/-- a crash of a disk whose ledger lives. -/
theorem RInv.crash {f M : Nat} {allF : List ByteArray} (h : RInv D G f M allF) (keep tear : Int) : SInv (crashL D keep tear) f M G.mark G.half (encL allF) := SInv.crash h.ok.good h.firm h.wait keep tear
theorem step_law {f M : Nat} {allF : List ByteArray} (o : Op5) (h : RInv D G f M allF) (hm : G.mark < 4294967295) : StepL D G f M allF o (stepL o D G) := by
  have hl := h.live
  unfold stepL
  by_cases h0 : o.kd = 0
  · rw [if_pos h0]
    rcases no_val G o.s hl with hn | hn
    · obtain ⟨a1, a2⟩ := append_law h hn
      have eE : appE D G o.s = if (appW D G o.s).2 then 0 else 40 := by unfold appE; rw [if_neg (by rw [hn]; decide)]
      have eG : appG D G o.s = if (appW D G o.s).2 then { G with b := G.b ++ frame o.s, all := G.all ++ [o.s] } else { G with dead := true } := by unfold appG; rw [if_neg (by rw [hn]; decide)]
      cases hw : (appW D G o.s).2 with
      | true =>
        rw [hw, if_pos rfl] at eE eG
        have ed : doN o (appE D G o.s) (G.all, allF) = (G.all ++ [o.s], allF) := by unfold doN; rw [eE, if_neg (by simp), if_pos h0]
        exact ⟨fun _ => ⟨by show RInv _ _ _ _ (doN o (appE D G o.s) _).2; rw [ed]; exact a1 hw, by show (appG D G o.s).all = (doN o (appE D G o.s) _).1; rw [ed, eG], by show (appG D G o.s).mark ≤ _; rw [eG]; exact Nat.le_succ _⟩, fun e => by rw [show appE D G o.s = 0 from eE] at e; cases e⟩
      | false =>
        rw [hw, if_neg (by decide)] at eE eG
        exact ⟨fun e => absurd eE e, fun _ => ⟨by show (appG D G o.s).dead = true; rw [eG], fun keep tear => ⟨G.mark, G.half, allF, a2 keep tear, Nat.le_succ _, h.short, .inl rfl⟩⟩⟩
    · have hne : appNo G o.s ≠ 0 := by omega
      have eE : appE D G o.s = appNo G o.s := by unfold appE; rw [if_pos hne]
      have eG : appG D G o.s = G := by unfold appG; rw [if_pos hne]
      have eD : appD D G o.s = D := by unfold appD; rw [if_pos hne]
      rw [eG, eD, eE]
      have ed : doN o (appNo G o.s) (G.all, allF) = (G.all, allF) := by unfold doN; rw [if_pos hne]
      exact ⟨fun _ => ⟨by show RInv D G _ _ (doN o (appNo G o.s) _).2; rw [ed]; exact h, by show G.all = (doN o (appNo G o.s) _).1; rw [ed], Nat.le_succ _⟩, fun (e : appNo G o.s = 40) => by omega⟩
  · rw [if_neg h0]
    by_cases h1 : o.kd = 1
    · rw [if_pos h1]
      obtain ⟨a1, a2⟩ := sync_law h hm
      cases hb : lsyB D G with
      | true =>
        obtain ⟨b1, b2, b3, b4⟩ := a1 hb
        have ed : doN o 0 (G.all, allF) = (G.all, G.all) := by unfold doN; rw [if_neg (by simp), if_neg h0, if_pos h1]
        rw [if_pos rfl]
        exact ⟨fun _ => ⟨by show RInv _ _ _ _ (doN o 0 _).2; rw [ed]; exact b1, by show (lsyG D G).all = (doN o 0 _).1; rw [ed, b2], by show (lsyG D G).mark ≤ _; rw [b3]; exact Nat.le_refl _⟩, (fun e => by cases e)⟩
      | false =>
        obtain ⟨b1, b2⟩ := a2 hb
        rw [if_neg (by decide)]
        refine ⟨fun e => absurd rfl e, fun _ => ⟨b1, fun keep tear => ?_⟩⟩
        rcases b2 keep tear with b2 | b2
        · exact ⟨_, _, allF, b2, Nat.le_succ _, h.short, .inl rfl⟩
        · exact ⟨_, _, G.all, b2, Nat.le_refl _, h.ok.short, .inr (by unfold nextN; rw [if_pos h1])⟩
    · rw [if_neg h1]
      by_cases h2 : o.kd = 2
      · rw [if_pos h2]
        rcases rno_val G o.all hl with hn | hn
        · obtain ⟨a1, a2⟩ := rep_law h hm hn
          by_cases he : repE D G o.all = 0
          · obtain ⟨b1, b2, b3, b4⟩ := a1 he
            have ed : doN o (repE D G o.all) (G.all, allF) = (o.all, o.all) := by unfold doN; rw [he, if_neg (by simp), if_neg h0, if_neg h1, if_pos h2]
            exact ⟨fun _ => ⟨by show RInv _ _ _ _ (doN o (repE D G o.all) _).2; rw [ed]; exact b1, by show (repG D G o.all).all = (doN o (repE D G o.all) _).1; rw [ed, b2], by show (repG D G o.all).mark ≤ _; rw [b3]; exact Nat.le_refl _⟩, fun (e : repE D G o.all = 40) => by omega⟩
          · obtain ⟨b0, b1, b2⟩ := a2 he
            refine ⟨fun e => absurd b0 e, fun _ => ⟨b1, fun keep tear => ?_⟩⟩
            rcases b2 keep tear with b2 | b2
            · exact ⟨_, _, allF, b2, Nat.le_succ _, h.short, .inl rfl⟩
            · exact ⟨_, _, o.all, b2, Nat.le_refl _, (rep_yes hn).2.1, .inr (by unfold nextN; rw [if_neg h1, if_pos h2])⟩
        · have hne : repNo G o.all ≠ 0 := by omega
          have eE : repE D G o.all = repNo G o.all := by unfold repE; rw [if_pos hne]
          have eG : repG D G o.all = G := by unfold repG; rw [if_pos hne]
          have eD : repD D G o.all = D := by unfold repD; rw [if_pos hne]
          rw [eG, eD, eE]
          have ed : doN o (repNo G o.all) (G.all, allF) = (G.all, allF) := by unfold doN; rw [if_pos hne]
          exact ⟨fun _ => ⟨by show RInv D G _ _ (doN o (repNo G o.all) _).2; rw [ed]; exact h, by show G.all = (doN o (repNo G o.all) _).1; rw [ed], Nat.le_succ _⟩, fun (e : repNo G o.all = 40) => by omega⟩
      · rw [if_neg h2]
        have ed : doN o 0 (G.all, allF) = (G.all, allF) := by unfold doN; rw [if_neg (by simp), if_neg h0, if_neg h1, if_neg h2]
        exact ⟨fun _ => ⟨by show RInv D G _ _ (doN o 0 _).2; rw [ed]; exact h, by show G.all = (doN o 0 _).1; rw [ed], Nat.le_succ _⟩, (fun e => by cases e)⟩
/-! a disk that was not armed does not die -/
theorem dies_0 (h : D.armed = 0) : diesB D = false ∧ diesD D = D := by unfold diesB diesD; rw [if_pos h, if_pos h]; exact ⟨rfl, rfl⟩
theorem wr1_0 (k : Nat) (c : Sec) (h : D.armed = 0) : (wr1 D k c).armed = 0 := by
  unfold wr1
  rw [(dies_0 (D := putD D k (pad c)) h).2]
  exact h
theorem wrAll_0 {first : Nat} {b : Sec} : ∀ (fu k : Nat) (D : Dk), D.armed = 0 → (wrAll first b fu k D).2 = true ∧ (wrAll first b fu k D).1.armed = 0 := by
  intro fu
  induction fu with
  | zero => intro k D h; exact ⟨rfl, h⟩
  | succ fu ih =>
    intro k D h
    unfold wrAll
    split
    · rw [(dies_0 h).1, if_neg (by decide)]
      exact ih _ _ (wr1_0 _ _ h)
    · exact ⟨rfl, h⟩
theorem syncD_0 (hd : D.dead = false) (h : D.armed = 0) : (syncD D).armed = 0 := by rw [syncD_is hd, (dies_0 h).1, if_neg (by decide), (dies_0 h).2]; exact h
theorem seal_0 (half firm : Nat) (hf : Fits G D) (hd : D.dead = false) (h : D.armed = 0) : (sealR D G half firm).2 = true ∧ (sealR D G half firm).1.armed = 0 := by
  have h1 := syncD_0 hd h
  have hd1 : (syncD D).dead = false := by rw [sync_dead hd, (dies_0 h).1]
  have h2 := wr1_0 (markK G) (markS (nextM G.mark) half firm) h1
  have hd2 : (wr1 (syncD D) (markK G) (markS (nextM G.mark) half firm)).dead = false := by rw [wr1_dead _ _ hd1, (dies_0 h1).1]
  rw [sealR_is half firm hf hd, (dies_0 h).1, if_neg (by decide), (dies_0 h1).1, if_neg (by decide), (dies_0 h2).1]
  exact ⟨rfl, syncD_0 hd2 h2⟩
theorem lives_app (s : ByteArray) (ho : Okl D G) (hl : G.dead = false) (h : D.armed = 0) : appE D G s = appNo G s ∧ (appD D G s).armed = 0 ∧ (appG D G s).dead = false := by
  unfold appE appD appG appW
  obtain ⟨a, b⟩ := wrAll_0 (first := firstG G G.half) (b := G.b ++ frame s) (G.size + 1) (G.b.length / 64) D h
  by_cases hn : appNo G s = 0
  · rw [hn]; simp only [ne_eq, not_true_eq_false, if_false, a, if_true]; exact ⟨trivial, b, hl⟩
  · simp only [ne_eq, hn, not_false_eq_true, if_true]; exact ⟨trivial, h, hl⟩
theorem lives_sync (ho : Okl D G) (hl : G.dead = false) (h : D.armed = 0) : lsyB D G = true ∧ (lsyD D G).armed = 0 ∧ (lsyG D G).dead = false := by
  obtain ⟨a, b⟩ := seal_0 G.half G.b.length ho.fits (by rw [ho.dead, hl]) h
  unfold lsyB lsyD lsyG sealG
  rw [hl, if_neg (by decide), if_neg (by decide), a]
  exact ⟨rfl, b, by rw [if_pos rfl]⟩
theorem lives_rep (xs : List ByteArray) (ho : Okl D G) (hl : G.dead = false) (h : D.armed = 0) : repE D G xs = repNo G xs ∧ (repD D G xs).armed = 0 ∧ (repG D G xs).dead = false ∧ (repNo G xs = 0 → (repG D G xs).all = xs) := by
  by_cases hn : repNo G xs = 0
  · obtain ⟨y1, y2, y3⟩ := rep_yes hn
    have hh := ho.fits.half
    have hh1 : 1 - G.half < 2 := by omega
    obtain ⟨a, b⟩ := wrAll_0 (first := firstG G (1 - G.half)) (b := encL xs) (G.size + 1) 0 D h
    obtain ⟨g1, g2, g3, g4⟩ := wrAll_good (b := encL xs) (G.size + 1) 0 D ho.good (by rw [ho.dead, y1]) (fits_half ho.fits hh1 y3)
    have e0 : repW D G xs = wrAll (firstG G (1 - G.half)) (encL xs) (G.size + 1) 0 D := rfl
    rw [← e0] at a b g2 g4
    rw [a] at g4
    obtain ⟨c, d⟩ := seal_0 (D := (repW D G xs).1) (1 - G.half) (encL xs).length (fits_of ho.fits g2 rfl rfl hh ho.fits.b) g4 b
    unfold repE repD repG
    rw [hn]
    simp only [ne_eq, not_true_eq_false, if_false, a, if_true, c]
    exact ⟨trivial, d, hl, fun _ => trivial⟩
  · unfold repE repD repG
    simp only [ne_eq, hn, not_false_eq_true, if_true]
    exact ⟨trivial, h, hl, fun e => absurd e id⟩
theorem lives_step (o : Op5) (ho : Okl D G) (hl : G.dead = false) (h : D.armed = 0) : (stepL o D G).2.2 ≠ 40 ∧ (stepL o D G).1.armed = 0 ∧ (stepL o D G).2.1.dead = false := by
  unfold stepL
  split
  · obtain ⟨a, b, c⟩ := lives_app o.s ho hl h
    refine ⟨?_, b, c⟩
    show appE D G o.s ≠ 40
    rw [a]
    rcases no_val G o.s hl with hn | hn | hn <;> rw [hn] <;> decide
  · split
    · obtain ⟨a, b, c⟩ := lives_sync ho hl h
      refine ⟨?_, b, c⟩
      show (if lsyB D G then (0 : Int) else 40) ≠ 40
      rw [a]; decide
    · split
      · obtain ⟨a, b, c, _⟩ := lives_rep o.all ho hl h
        refine ⟨?_, b, c⟩
        show repE D G o.all ≠ 40
        rw [a]
        rcases rno_val G o.all hl with hn | hn | hn <;> rw [hn] <;> decide
      · exact ⟨(by show (0 : Int) ≠ 40; decide), h, hl⟩
/-! a ledger that is opened -/
def openedG (f M m half : Nat) (all : List ByteArray) : Lg := ⟨f, (M - 2) / 2, m, half, (encL all).length, encL all, all, false⟩
theorem short_all {all : List ByteArray} (h : longB all = false) : ∀ s ∈ all, s.size ≤ 4096 := by
  unfold longB at h
  rw [List.any_eq_false] at h
  intro s hs
  have := h s hs
  simp at this
  exact this
theorem rinv_open {f M m half : Nat} {all : List ByteArray} (hg : Good D) (hd : D.dead = false) (hw : D.wait = []) (h : SInv D.now f M m half (encL all)) (hs : longB all = false) (hm : m < 4294967296) :
    openG D f M = some (openedG f M m half all) ∧ RInv D (openedG f M m half all) f M all := by
  have hfn : D.firm = D.now := by have := hg.is; rw [hw] at this; exact this.symm
  refine ⟨open_found h hm (decL_enc all (short_all hs)), ⟨⟨hg, ⟨?_, ?_, hg.many, h.hlf, h.fits⟩, hd, rfl, hs⟩, rfl, rfl, rfl, by rw [hfn]; exact h, (fun x hx => by rw [hw] at hx; cases hx), hs, List.take_of_length_le (Nat.le_refl _), h.data⟩⟩
  · have := h.four; show 1 ≤ (M - 2) / 2; omega
  · have := h.four; have := h.len; show f + 2 + 2 * ((M - 2) / 2) ≤ D.now.length; omega
theorem sinv_new (c f M : Nat) (h4 : 4 ≤ M) (hM : M ≤ 65536) (h : f + M ≤ c) : SInv (List.replicate c zsec) f M 0 0 (encL []) := by
  have hk : ∀ k, k < c → (List.replicate c zsec)[k]? = some zsec := fun k hk => by rw [List.getElem?_replicate, if_pos hk]
  exact ⟨fun s hs => by rw [(List.mem_replicate.1 hs).2]; rfl, by rw [List.length_replicate]; exact h, h4, by decide, Nat.zero_le _, hM, .inl ⟨rfl, rfl, rfl, hk f (by omega)⟩, ⟨zsec, hk _ (by omega), by decide, .inr (.inl rfl)⟩, fun j i X _ _ hlt => by exact absurd hlt (Nat.not_lt_zero _)⟩
theorem good_arm (h : Good D) (k : Int) (hk : k ≤ 9223372036854775807) : Good (armD D k) := ⟨h.fulln, h.fullf, h.fullw, h.same, h.many, h.lies, ⟨by show 0 ≤ max k 0; omega, by show max k 0 ≤ _; omega⟩, h.is⟩
theorem rinv_arm {f M : Nat} {allF : List ByteArray} (h : RInv D G f M allF) (k : Int) (hk : k ≤ 9223372036854775807) : RInv (armD D k) G f M allF :=
  ⟨⟨good_arm h.ok.good k hk, ⟨h.ok.fits.size0, h.ok.fits.size, h.ok.fits.disk, h.ok.fits.half, h.ok.fits.b⟩, h.ok.dead, h.ok.enc, h.ok.short⟩, h.live, h.fr, h.sz, h.firm, h.wait, h.short, h.pre, h.now⟩
end Go.Proofs.Ytdiboicllolcnaa
