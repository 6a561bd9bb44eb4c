/- ledger: a call on a ledger, as the law makes it. Conditions: the ledger lies in the call's own memory, the call's texts in memory that is none of its. -/
import Derived.Test.YtdiboicllolcnaaLq
namespace Go.Proofs.Ytdiboicllolcnaa
open Go Go.RowKit
set_option linter.unusedVariables false
set_option linter.unusedSimpArgs false
variable {w w' : World} {base n nd b0 : Nat} {V V' : Vl} {VD VD' : Vs} {D D' : Dk} {G G' : Lg}
/-- what a call does. -/
def DoesL (w : World) (base n nd : Nat) (V : Vl) (VD : Vs) (r : Dk × Lg × Int) (e : Ending) (w' : World) : Prop :=
  ∃ V' VD', e = .returned (.int .i64 r.2.2) ∧ Ldg w' base n nd V' VD' r.1 r.2.1 ∧ GoesL w w' n nd V V' VD VD'
theorem GoesL.above {w0 : World} (h : GoesL w w' n nd V V' VD VD') (hb : Below w0.heap.size w0 w) (hk : ∀ k, OfL n nd V VD k → k < w0.heap.size) (hl : w0.heap.size ≤ w.heap.size) : GoesL w0 w' n nd V V' VD VD' := (GoesL.of_below hb).trans h
theorem append_any (s : ByteArray) (h : Ldg w base n nd V VD D G) (hb : base ≤ w.heap.size) (ho : Okl D G) (hwl : D.wait.length ≤ 700000) :
    Calls Try.prog 14 #[.pointer (some ⟨n, 0, none⟩), .string s] w (AppPost w base n nd V VD D G s) := by
  by_cases hn : appNo G s = 0
  · have := ho.size
    have := ho.count
    exact append_do s h hb ho.fits ho.good (by rw [ho.dead, (app_yes hn).1]) hn (by omega) (by omega)
  · exact append_no s h ho.fits hn
set_option maxHeartbeats 1000000 in
theorem does_any (o : Op5) (ad : Option Addr) (cap : Nat) (h : Ldg w base n nd V VD D G) (hb : base ≤ w.heap.size) (ho : Okl D G) (hwl : D.wait.length ≤ 700000) (hx : TxIn w ad cap o.all) (hl : o.all.length ≤ 2000) (hdis : o.all.length ≠ 0 → ∀ g off, ad = some ⟨g, off, none⟩ → ¬ OfL n nd V VD g) :
    Calls Try.prog 22 #[.pointer (some ⟨n, 0, none⟩), ov o ad cap] w (DoesL w base n nd V VD (stepL o D G)) := by
  obtain ⟨r, hr⟩ : ∃ r, r = stepL o D G := ⟨_, rfl⟩
  rw [← hr]
  obtain ⟨len, hlen⟩ : ∃ len, len = o.all.length := ⟨_, rfl⟩
  have hov : ov o ad cap = .agg #[.int .i64 o.kd, .string o.s, .slice ad len cap] := by rw [hlen]
  rw [hov]
  have HBX := Box.new w 49 #[.int .i64 o.kd, .string o.s, .slice ad len cap]
  have hb0 : Below w.heap.size w (w.alloc (.cells #[.int .i64 o.kd, .string o.s, .slice ad len cap] 49)) := (Below.refl _ _).alloc (Nat.le_refl _) _
  have HB := Lib.hid hb0
  have HL := Lib.hid (h.bel hb0)
  have HR := Lib.hid hr
  have hsz := ho.size
  have hxt : Txs w ad len o.all := by rw [hlen]; exact hx.at_
  by_cases h0 : o.kd = 0
  · have C := Lib.hid (append_any o.s HL.out (Nat.le_trans hb hb0.size) ho hwl)
    have HS := Lib.hid (show r = (appD D G o.s, appG D G o.s, appE D G o.s) by rw [hr]; unfold stepL; rw [if_pos h0])
    rw [h0]
    rw [h0] at C HB HL HBX
    clear h ho hx hxt hdis hr hlen hov h0 hb0 HR
    go_enter Try.func22, Try.ntmps22
    go_wp2_with fail
    refine C.out.mono ?_
    rintro e w1 ⟨V1, VD1, rfl, l1, g1⟩
    have HL1 := Lib.hid l1
    have HG1 := Lib.hid ((GoesL.of_below HB.out).trans g1)
    clear l1 g1 C
    obtain ⟨E, hE⟩ : ∃ E, E = appE D G o.s := ⟨_, rfl⟩
    rw [← hE]
    have HE := Lib.hid hE
    clear hE
    go_wp2_with fail
    go_ret
    exact ⟨V1, VD1, by rw [HS.out, HE.out]; rfl, by rw [HS.out]; exact HL1.out, HG1.out⟩
  by_cases h1 : o.kd = 1
  · have C := Lib.hid (lsync_any HL.out (Nat.le_trans hb hb0.size) ho.fits ho.good ho.dead (by omega))
    have HS := Lib.hid (show r = (lsyD D G, lsyG D G, if lsyB D G then 0 else 40) by rw [hr]; unfold stepL; rw [if_neg h0, if_pos h1])
    rw [h1]
    rw [h1] at C HB HL HBX
    clear h ho hx hxt hdis hr hlen hov h0 h1 hb0 HR
    go_enter Try.func22, Try.ntmps22
    go_wp2_with fail
    refine C.out.mono ?_
    rintro e w1 ⟨VD1, rfl, l1, g1⟩
    have HL1 := Lib.hid l1
    have HG1 := Lib.hid ((GoesL.of_below HB.out).trans g1)
    clear l1 g1 C
    obtain ⟨E, hE⟩ : ∃ E : Int, E = if lsyB D G then 0 else 40 := ⟨_, rfl⟩
    rw [← hE]
    have HE := Lib.hid hE
    clear hE
    go_wp2_with fail
    go_ret
    exact ⟨V, VD1, by rw [HS.out, HE.out]; rfl, by rw [HS.out]; exact HL1.out, HG1.out⟩
  by_cases h2 : o.kd = 2
  · have C := Lib.hid (replace_any ad len cap o.all HL.out (Nat.le_trans hb hb0.size) ho.fits ho.good ho.dead (by omega) (hxt.bel hb0) hx.nil (by rw [hlen]; exact hx.cap) (by omega) (fun e => hdis (by omega)))
    have HS := Lib.hid (show r = (repD D G o.all, repG D G o.all, repE D G o.all) by rw [hr]; unfold stepL; rw [if_neg h0, if_neg h1, if_pos h2])
    rw [h2]
    rw [h2] at C HB HL HBX
    clear h ho hx hxt hdis hr hlen hov h0 h1 h2 hb0 HR
    go_enter Try.func22, Try.ntmps22
    go_wp2_with fail
    refine C.out.mono ?_
    rintro e w1 ⟨V1, VD1, rfl, l1, g1⟩
    have HL1 := Lib.hid l1
    have HG1 := Lib.hid ((GoesL.of_below HB.out).trans g1)
    clear l1 g1 C
    obtain ⟨E, hE⟩ : ∃ E, E = repE D G o.all := ⟨_, rfl⟩
    rw [← hE]
    have HE := Lib.hid hE
    clear hE
    go_wp2_with fail
    go_ret
    exact ⟨V1, VD1, by rw [HS.out, HE.out]; rfl, by rw [HS.out]; exact HL1.out, HG1.out⟩
  · have HS := Lib.hid (show r = (D, G, 0) by rw [hr]; unfold stepL; rw [if_neg h0, if_neg h1, if_neg h2])
    have q0 : (o.kd == 0) = false := by simpa using h0
    have q1 : (o.kd == 1) = false := by simpa using h1
    have q2 : (o.kd == 2) = false := by simpa using h2
    clear h ho hx hxt hdis hr hlen hov h0 h1 h2 hb0 HR
    go_enter Try.func22, Try.ntmps22
    go_wp2_with fail
    go_ret
    exact ⟨V, VD, by rw [HS.out]; rfl, by rw [HS.out]; exact HL.out, GoesL.of_below HB.out⟩
end Go.Proofs.Ytdiboicllolcnaa
