/- ledger: a script of calls, call by call, where the disk is not armed. Conditions: as in each statement. -/
import Derived.Test.YtdiboicllolcnaaLy
namespace Go.Proofs.Ytdiboicllolcnaa
open Go Go.RowKit
set_option linter.unusedVariables false
set_option linter.unusedSimpArgs false
variable {w w' : World} {base n nd b0 : Nat} {V V' : Vl} {VD VD' : Vs} {D D' : Dk} {G G' : Lg}
/-- a ledger behind k calls; s: what the document has. -/
structure St5 (w0 : World) (base n nd M : Nat) (wr : World) (k : Nat) (s : List ByteArray × List ByteArray) (V : Vl) (VD : Vs) (D : Dk) (G : Lg) : Prop where
  ldg : Ldg wr base n nd V VD D G
  inv : RInv D G 2 M s.2
  all : G.all = s.1
  arm : D.armed = 0
  mark : G.mark ≤ k
  wait : D.wait.length ≤ k * (M + 2)
  bel : Below w0.heap.size w0 wr
  b0 : w0.heap.size ≤ base
  b1 : base ≤ wr.heap.size
theorem St5.below {w0 wr : World} {M k : Nat} {s : List ByteArray × List ByteArray} (h : St5 w0 base n nd M wr k s V VD D G) (hb : Below wr.heap.size wr w') : St5 w0 base n nd M w' k s V VD D G :=
  ⟨h.ldg.bel hb, h.inv, h.all, h.arm, h.mark, h.wait, h.bel.trans (hb.mono h.bel.size), h.b0, Nat.le_trans h.b1 hb.size⟩
theorem St5.drew {w0 wr : World} {M k : Nat} {s : List ByteArray × List ByteArray} (h : St5 w0 base n nd M wr k s V VD D G) : St5 w0 base n nd M wr.drew k s V VD D G := h.below (Below.refl _ _).drew
theorem St5.start {w0 w1 wr : World} {M : Nat} (hb : Below w0.heap.size w0 w1) (hL : Ldg wr w1.heap.size n nd V VD D (openedG 2 M 0 0 [])) (hR : RInv D (openedG 2 M 0 0 []) 2 M []) (ha : D.armed = 0) (hw : D.wait = []) (b : Below w1.heap.size w1 wr) : St5 w0 w1.heap.size n nd M wr 0 ([], []) V VD D (openedG 2 M 0 0 []) :=
  ⟨hL, hR, rfl, ha, Nat.zero_le _, by rw [hw]; exact Nat.zero_le _, hb.trans (b.mono hb.size), hb.size, b.size⟩
theorem size_le {w0 wr : World} {M k : Nat} {s : List ByteArray × List ByteArray} (h : St5 w0 base n nd M wr k s V VD D G) : G.size ≤ M := by rw [h.inv.sz]; omega
theorem St5.goes {w0 wr : World} {M k : Nat} {s : List ByteArray × List ByteArray} (h : St5 w0 base n nd M wr k s V VD D G) (o : Op5) (hk : k ≤ 100000) (hl : Ldg w' base n nd V' VD' (stepL o D G).1 (stepL o D G).2.1) (g : GoesL wr w' n nd V V' VD VD') :
    St5 w0 base n nd M w' (k + 1) (doN o (stepL o D G).2.2 s) V' VD' (stepL o D G).1 (stepL o D G).2.1 := by
  obtain ⟨e1, e2, e3⟩ := lives_step o h.inv.ok h.inv.live h.arm
  have hm := h.mark
  have hst := (step_law o h.inv (by omega)).live e1
  have hkp := keeps_step o h.inv.ok
  have hsz := size_le h
  have hwt := h.wait
  have e4 : (G.all, s.2) = s := by rw [h.all]
  rw [e4] at hst
  refine ⟨hl, hst.1, hst.2.1, e2, by have := hst.2.2; omega, ?_, g.below h.bel (Nat.le_refl _) (fun k hk => Nat.le_trans h.b0 (h.ldg.of_ge k hk)), h.b0, Nat.le_trans h.b1 g.touch.size⟩
  have := hkp.wait
  rw [Nat.succ_mul]
  omega
theorem tx_apart {w0 wr : World} {M k : Nat} {s : List ByteArray × List ByteArray} (h : St5 w0 base n nd M wr k s V VD D G) {ad : Option Addr} {cap : Nat} {xs : List ByteArray} (hx : TxIn w0 ad cap xs) : xs.length ≠ 0 → ∀ g off, ad = some ⟨g, off, none⟩ → ¬ OfL n nd V VD g := by
  intro h0 g off e ho
  obtain ⟨g', off', e', hg, _⟩ := hx.at_.2.2.resolve_left h0
  rw [e] at e'
  injection e' with e'
  injection e' with e'
  have := h.ldg.of_ge g ho
  have := h.b0
  omega
/-- one call of the script. -/
theorem St5.does {w0 wr : World} {M k : Nat} {s : List ByteArray × List ByteArray} (h : St5 w0 base n nd M wr k s V VD D G) (o : Op5) (ad : Option Addr) (cap : Nat) (hx : TxIn w0 ad cap o.all) (hl : o.all.length ≤ 2000) (hk : k ≤ 300) (hM : M ≤ 2000) :
    Calls Try.prog 22 #[.pointer (some ⟨n, 0, none⟩), ov o ad cap] wr fun e w' => ∃ V' VD', e = .returned (.int .i64 (stepL o D G).2.2) ∧ St5 w0 base n nd M w' (k + 1) (doN o (stepL o D G).2.2 s) V' VD' (stepL o D G).1 (stepL o D G).2.1 ∧ GoesL wr w' n nd V V' VD VD' := by
  have hw := h.wait
  have hwb : k * (M + 2) ≤ 300 * 2002 := Nat.mul_le_mul hk (by omega)
  refine (does_any o ad cap h.ldg h.b1 h.inv.ok (by omega) (hx.below h.bel (Nat.le_refl _)) hl (tx_apart h hx)).mono ?_
  rintro e w1 ⟨V', VD', he, hl1, g1⟩
  exact ⟨V', VD', he, h.goes o (by omega) hl1 g1, g1⟩
theorem Ldg.notBox (h : Ldg w base n nd V VD D G) {b : Nat} {T : TypeId} {cs : Array Value} (hb : Box w b T cs) (h1 : T ≠ 71) (h2 : T ≠ 5) (h3 : T ≠ 9) (h4 : T ≠ 78) (h5 : T ≠ 81) (h6 : T ≠ 83) : ¬ OfL n nd V VD b := by
  rintro (rfl | hv | hv | hv)
  · have h7 := h.box
    unfold Box at hb h7
    rw [hb] at h7
    simp at h7
    exact h1 h7.2
  · exact own_box_ne h.rb hb (Ne.symm h2) hv
  · exact own_box_ne h.ra hb (Ne.symm h3) hv
  · exact h.dsk.notBox hb h4 h5 h6 hv
/-- a slice that lies elsewhere stays. -/
theorem Tv.goes {v : Value} {xs : List ByteArray} (h : Tv w v xs) (ha : At v fun g => ¬ OfL n nd V VD g) (g : GoesL w w' n nd V V' VD VD') : Tv w' v xs := by
  obtain ⟨ad, cap, rfl, ht⟩ := h
  refine ⟨ad, cap, rfl, ⟨?_, ht.nil, ht.cap⟩⟩
  by_cases h0 : xs.length = 0
  · exact ⟨rfl, ht.at_.2.1, .inl h0⟩
  · exact ht.at_.stays (fun b off e hb => g.touch.block b hb (ha _ _ _ rfl h0 b off e)) g.touch.size
theorem Tv.lt {v : Value} {xs : List ByteArray} (h : Tv w v xs) : At v fun g => g < w.heap.size := by
  obtain ⟨ad, cap, rfl, ht⟩ := h
  refine At.mk fun h0 g off e => ?_
  obtain ⟨g', off', e', hg, _⟩ := ht.at_.2.2.resolve_left h0
  rw [e] at e'
  injection e' with e'
  injection e' with e'
  omega
theorem At.goes {v : Value} (h : At v fun g => ¬ OfL n nd V VD g) (hl : At v fun g => g < w.heap.size) (g : GoesL w w' n nd V V' VD VD') : At v fun g => ¬ OfL n nd V' VD' g := fun ad len cap e h0 b off ea ho => by
  rcases g.lies b ho with h1 | h1
  · exact h ad len cap e h0 b off ea h1
  · have := hl ad len cap e h0 b off ea; omega
end Go.Proofs.Ytdiboicllolcnaa
