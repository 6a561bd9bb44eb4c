/- ledger: Append. Conditions: the ledger lies in the call's own memory. -/
import Derived.Test.YtdiboicllolcnaaLh
namespace Go.Proofs.Ytdiboicllolcnaa
open Go Go.RowKit
set_option linter.unusedVariables false
set_option linter.unusedSimpArgs false
variable {w w' : World} {base n nd b0 : Nat} {V V' : Vl} {VD VD' : Vs} {D D' : Dk} {G G' : Lg}
/-- a record that may not be appended. -/
def appNo (G : Lg) (s : ByteArray) : Int := if G.dead then 40 else if 4096 < s.size then 52 else if roomI G < (s.size : Int) then 51 else 0
/-- what a record's writing does. -/
def appW (D : Dk) (G : Lg) (s : ByteArray) : Dk × Bool := wrAll (firstG G G.half) (G.b ++ frame s) (G.size + 1) (G.b.length / 64) D
def appE (D : Dk) (G : Lg) (s : ByteArray) : Int := if appNo G s ≠ 0 then appNo G s else if (appW D G s).2 then 0 else 40
def appD (D : Dk) (G : Lg) (s : ByteArray) : Dk := if appNo G s ≠ 0 then D else (appW D G s).1
def appG (D : Dk) (G : Lg) (s : ByteArray) : Lg := if appNo G s ≠ 0 then G else if (appW D G s).2 then { G with b := G.b ++ frame s, all := G.all ++ [s] } else { G with dead := true }
/-- what Append answers. -/
def AppPost (w : World) (base n nd : Nat) (V : Vl) (VD : Vs) (D : Dk) (G : Lg) (s : ByteArray) (e : Ending) (w' : World) : Prop :=
  ∃ V' VD', e = .returned (.int .i64 (appE D G s)) ∧ Ldg w' base n nd V' VD' (appD D G s) (appG D G s) ∧ GoesL w w' n nd V V' VD VD'
theorem app_no {s : ByteArray} {e : Int} (he : appNo G s = e) (h0 : e ≠ 0) (h : Ldg w' base n nd V VD D G) (hg : GoesL w w' n nd V V VD VD) : AppPost w base n nd V VD D G s (.returned (.int .i64 e)) w' := by
  refine ⟨V, VD, ?_, ?_, hg⟩
  · rw [appE, if_pos (he ▸ h0), he]
  · rw [appD, appG, if_pos (he ▸ h0), if_pos (he ▸ h0)]; exact h
set_option maxRecDepth 100000 in
set_option maxHeartbeats 8000000 in
theorem append_no (s : ByteArray) (h : Ldg w base n nd V VD D G) (hf : Fits G D) (hn : appNo G s ≠ 0) :
    Calls Try.prog 14 #[.pointer (some ⟨n, 0, none⟩), .string s] w (AppPost w base n nd V VD D G s) := by
  have HL := Lib.hid h
  have p8 : w.cell? ⟨n, 8, none⟩ = some (.bool G.dead) := h.box.cell 8
  have hbl := h.box.lt
  have C := Lib.hid (room_any h hf)
  have HN := Lib.hid hn
  cases hd : G.dead with
  | true =>
    have HE := Lib.hid (show appNo G s = 40 by unfold appNo; rw [hd]; rfl)
    rw [hd] at p8
    clear h hf hd hn
    go_enter Try.func14, Try.ntmps14
    go_wp2_with fail
    go_ret
    exact app_no HE.out (by decide) HL.out (GoesL.of_below (Below.refl _ _))
  | false =>
    rw [hd] at p8
    by_cases h1 : 4096 < s.size
    · have HE := Lib.hid (show appNo G s = 52 by unfold appNo; rw [hd, if_neg (by decide), if_pos h1])
      have h2 : (4096 : Int) < (s.size : Int) := by omega
      clear h hf hd hn h1
      go_enter Try.func14, Try.ntmps14
      go_wp2_with fail
      go_ret
      exact app_no HE.out (by decide) HL.out (GoesL.of_below (Below.refl _ _))
    · have h3 : roomI G < (s.size : Int) := by
        by_cases h3 : roomI G < (s.size : Int)
        · exact h3
        · exact absurd (by unfold appNo; rw [hd, if_neg (by decide), if_neg h1, if_neg h3]) hn
      have HE := Lib.hid (show appNo G s = 51 by unfold appNo; rw [hd, if_neg (by decide), if_neg h1, if_pos h3])
      have h2 : ¬ (4096 : Int) < (s.size : Int) := by omega
      clear h hf hd hn h1
      go_enter Try.func14, Try.ntmps14
      go_wp2_with fail
      refine C.out.mono ?_
      rintro e w1 ⟨rfl, b1⟩
      have HB1 := Lib.hid b1
      clear b1 C
      go_wp2_with fail
      go_ret
      exact app_no HE.out (by decide) (HL.out.bel HB1.out) (GoesL.of_below HB1.out)
end Go.Proofs.Ytdiboicllolcnaa
