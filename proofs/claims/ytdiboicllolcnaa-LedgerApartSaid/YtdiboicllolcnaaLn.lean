/- ledger: Replace, in plain words; texts that lie in memory, their copy. Conditions: as in each statement. -/
import Derived.Test.YtdiboicllolcnaaLm
namespace Go.Proofs.Ytdiboicllolcnaa
open Go Go.RowKit
set_option linter.unusedVariables false
set_option linter.unusedSimpArgs false
variable {w w' : World} {base n nd b0 : Nat} {V V' : Vl} {VD VD' : Vs} {D D' : Dk} {G G' : Lg}
/-- texts that lie in memory. -/
def Txs (w : World) (ad : Option Addr) (len : Nat) (xs : List ByteArray) : Prop :=
  xs.length = len ∧ len ≤ maxLen ∧ (len = 0 ∨ ∃ g off, ad = some ⟨g, off, none⟩ ∧ g < w.heap.size ∧ ∀ j s, xs[j]? = some s → w.cell? ⟨g, off + j, none⟩ = some (.string s))
theorem Txs.stays {ad : Option Addr} {len : Nat} {b : List ByteArray} (h : Txs w ad len b) (hk : ∀ g off, ad = some ⟨g, off, none⟩ → g < w.heap.size → w'.heap[g]? = w.heap[g]?) (hs : w.heap.size ≤ w'.heap.size) : Txs w' ad len b := by
  refine ⟨h.1, h.2.1, h.2.2.imp id ?_⟩
  rintro ⟨g, off, rfl, hg, hc⟩
  exact ⟨g, off, rfl, Nat.lt_of_lt_of_le hg hs, fun j v hj => (World.cell?_of_block (w := w) (hk g off rfl hg)).trans (hc j v hj)⟩
theorem Txs.bel {ad : Option Addr} {len : Nat} {b : List ByteArray} (h : Txs w ad len b) (hb : Below w.heap.size w w') : Txs w' ad len b := h.stays (fun g _ _ hg => hb.block g hg) hb.size
theorem Txs.below {ad : Option Addr} {len B : Nat} {b : List ByteArray} (h : Txs w ad len b) (hb : Below B w w') (hB : w.heap.size ≤ B) : Txs w' ad len b := h.stays (fun g _ _ hg => hb.block g (by omega)) hb.size
theorem Txs.src {ad : Option Addr} {len : Nat} {b : List ByteArray} (h : Txs w ad len b) : Src w ad len 1 (b.map Value.string) := by
  refine ⟨by simp [h.1], text_one _, h.2.2.imp id ?_⟩
  rintro ⟨g, off, rfl, hg, hc⟩
  refine ⟨_, rfl, fun j u hj => ?_⟩
  rw [List.getElem?_map] at hj
  obtain ⟨s, hs, rfl⟩ := Option.map_eq_some_iff.1 hj
  rw [addr_add]
  exact hc j s hs
theorem txs_own {m c : Nat} {ad : Option Addr} {b : List ByteArray} (h : w.ownsRow base 9 1 (.slice ad m c) m (b.map Value.string)) (hm : m ≤ maxLen) : Txs w ad m b := by
  have hl := h.1
  refine ⟨by simpa using hl, hm, ?_⟩
  rcases Nat.eq_zero_or_pos m with h0 | h0
  · exact .inl h0
  · obtain ⟨g, rfl, hb, hg, hc⟩ := own_at h 0 (by omega)
    exact .inr ⟨g, 0, rfl, hg, fun j s hj => by rw [Nat.zero_add]; exact hc j _ (by rw [List.getElem?_map, hj]; rfl)⟩
set_option maxHeartbeats 1000000 in
theorem clone_txs {L : List ByteArray} {m : Nat} (ad : Option Addr) (c : Nat) (h : Txs w ad m L) (hn : ad = none → c = 0) (hl : m ≤ 100000000) :
    Calls Try.prog 43 #[.slice ad m c] w fun e w' => ∃ v', e = .returned v' ∧ w'.ownsRow w.heap.size 9 1 v' m (L.map Value.string) ∧ Below w.heap.size w w' := by
  cases ad with
  | none =>
    have h0 : m = 0 := by
      rcases h.2.2 with h0 | ⟨g, off, h0, _⟩
      · exact h0
      · cases h0
    obtain rfl := hn rfl
    subst h0
    obtain rfl : L = [] := List.length_eq_zero_iff.1 (by simpa using h.1)
    have s1 := nil_eq42
    clear h hn
    go_enter Try.func43, Try.ntmps43
    go_wp2
    go_ret
    exact ⟨_, rfl, World.ownsRow_nil _ _ _ _, Below.refl _ _⟩
  | some ad =>
    have HO1 := Lib.hid (World.ownsRow_lit (base := w.heap.size) (e := 9) (size := 1) w #[] 0 (Nat.le_refl _) (by decide) rfl)
    have HS1 := Lib.hid ((h.bel ((Below.refl w.heap.size w).alloc (Nat.le_refl _) (.cells #[] 9))).src)
    obtain ⟨i0, hi, hz0, hz1, hz2⟩ := info_parts row9
    have HI := Lib.hid hi
    have HZZ := Lib.hid hz0
    have HSZ := Lib.hid (show w.heap.size ≤ (w.alloc (.cells #[] 9)).heap.size by simp)
    have BB := Lib.hid ((Below.refl w.heap.size w).alloc (Nat.le_refl _) (.cells #[] 9))
    have s1 := some_ne42
    clear h hi hz0 hn
    go_enter Try.func43, Try.ntmps43
    go_wp2_with (at_builtin; refine wpList_append_at rfl (.tmp 5) (.tmp 6) 42 rfl w.heap.size 9 i0 _ 1 16 Try.underlying42 HI.out HZZ.out hz1 hz2 rfl (by decide) _ _ _ rfl HO1.out _ _ _ _ rfl HS1.out (by unfold maxLen; omega) (by omega) HSZ.out ?_; intro v2 w2 own2 g2 at2)
    go_ret
    exact ⟨_, rfl, by simpa using own2, BB.out.grown g2 HSZ.out (own_ge HO1.out)⟩
/-- Replace, in plain words. -/
def longB (xs : List ByteArray) : Bool := xs.any fun s => decide (4096 < s.size)
def repNo (G : Lg) (xs : List ByteArray) : Int := if G.dead then 40 else if longB xs then 52 else if G.size * 64 < (encL xs).length then 51 else 0
def repW (D : Dk) (G : Lg) (xs : List ByteArray) : Dk × Bool := wrAll (firstG G (1 - G.half)) (encL xs) (G.size + 1) 0 D
def repE (D : Dk) (G : Lg) (xs : List ByteArray) : Int := if repNo G xs ≠ 0 then repNo G xs else if (repW D G xs).2 then (if (sealR (repW D G xs).1 G (1 - G.half) (encL xs).length).2 then 0 else 40) else 40
def repD (D : Dk) (G : Lg) (xs : List ByteArray) : Dk := if repNo G xs ≠ 0 then D else if (repW D G xs).2 then (sealR (repW D G xs).1 G (1 - G.half) (encL xs).length).1 else (repW D G xs).1
def repG (D : Dk) (G : Lg) (xs : List ByteArray) : Lg :=
  if repNo G xs ≠ 0 then G else if (repW D G xs).2 then (if (sealR (repW D G xs).1 G (1 - G.half) (encL xs).length).2 then { G with mark := nextM G.mark, half := 1 - G.half, firm := (encL xs).length, b := encL xs, all := xs } else { G with dead := true }) else { G with dead := true }
def RepPost (w : World) (base n nd : Nat) (V : Vl) (VD : Vs) (D : Dk) (G : Lg) (xs : List ByteArray) (e : Ending) (w' : World) : Prop :=
  ∃ V' VD', e = .returned (.int .i64 (repE D G xs)) ∧ Ldg w' base n nd V' VD' (repD D G xs) (repG D G xs) ∧ GoesL w w' n nd V V' VD VD'
theorem rep_no {xs : List ByteArray} {e : Int} (he : repNo G xs = e) (h0 : e ≠ 0) (h : Ldg w' base n nd V VD D G) (hg : GoesL w w' n nd V V VD VD) : RepPost w base n nd V VD D G xs (.returned (.int .i64 e)) w' := by
  refine ⟨V, VD, ?_, ?_, hg⟩
  · rw [repE, if_pos (he ▸ h0), he]
  · rw [repD, repG, if_pos (he ▸ h0), if_pos (he ▸ h0)]; exact h
theorem encL_len (xs : List ByteArray) (h : longB xs = false) : (encL xs).length ≤ xs.length * 4100 := by
  induction xs with
  | nil => simp [encL]
  | cons s l ih =>
    simp only [longB, List.any_cons, Bool.or_eq_false_iff, decide_eq_false_iff_not] at h
    have := ih h.2
    have hf := frame_len s
    unfold encL at this ⊢
    rw [List.flatMap_cons, List.length_append, List.length_cons]
    omega
theorem encL_snoc (xs : List ByteArray) (s : ByteArray) : encL (xs ++ [s]) = encL xs ++ frame s := by simp [encL]
theorem longB_app (xs ys : List ByteArray) : longB (xs ++ ys) = (longB xs || longB ys) := by simp [longB]
theorem longB_at {xs : List ByteArray} {k : Nat} {s : ByteArray} (h : xs[k]? = some s) (hs : 4096 < s.size) : longB xs = true := by
  unfold longB
  rw [List.any_eq_true]
  exact ⟨s, List.mem_of_getElem? h, decide_eq_true hs⟩
end Go.Proofs.Ytdiboicllolcnaa
