/- chart: Decode. Conditions: the text has at most 4194304 bytes; the library's variable holds a number. -/
import Derived.Test.YtbkjhogfpcmcbaaDoorLi
import Derived.Test.YtbkjhogfpcmcbaaDoorLj
import Derived.Test.YtbkjhogfpcmcbaaDoorLb
namespace Go.Proofs.YtbkjhogfpcmcbaaDoor
open Go Go.RowKit Zn
set_option linter.unusedVariables false
set_option linter.unusedSimpArgs false
variable {w w' : World}
def CutTo (X : ByteArray) (c : UInt8) (V P : ByteArray) (h : Bool) : Prop := ∀ w, Mx w → Calls Tryd.prog 36 #[.string X, .string ⟨#[c]⟩] w fun e w' => e = .returned (.tuple #[.string V, .string P, .bool h]) ∧ Below w.heap.size w w'
theorem below_drewN (w : World) (n : Nat) : Below w.heap.size w (w.drewN n) := ⟨rfl, rfl, rfl, Nat.le_refl _, fun _ _ => rfl⟩
theorem cut_any (X : ByteArray) (c : UInt8) (hs : X.size ≤ 4194304) : ∃ V P h, CutTo X c V P h ∧ V.size ≤ X.size ∧ P.size ≤ X.size ∧ (h = true → cut1 c X.data.toList = some (V.data.toList, P.data.toList)) ∧ (h = false → cut1 c X.data.toList = none) := by
  have C : ∀ w, Mx w → _ := fun w (hm : Mx w) => hm.elim fun m hm => Tryd.strings_Cut X ⟨#[c]⟩ m w (by omega) hm
  cases hc : cut1 c X.data.toList with
  | none =>
    refine ⟨X, ⟨#[]⟩, false, fun w hm => (C w hm).mono fun e w' ⟨he, n, hw⟩ => ?_, Nat.le_refl _, Nat.zero_le _, (fun h => by cases h), fun _ => rfl⟩
    rw [show (⟨#[c]⟩ : ByteArray).data.toList = [c] from rfl, cut_none hc] at he
    exact ⟨he, by rw [hw]; exact below_drewN _ _⟩
  | some y =>
    obtain ⟨a, b⟩ := y
    obtain ⟨h1, _⟩ := cut1_some hc
    have hl := congrArg List.length h1
    rw [List.length_append, List.length_cons, ← Lib.size_eq] at hl
    refine ⟨⟨a.toArray⟩, ⟨b.toArray⟩, true, fun w hm => (C w hm).mono fun e w' ⟨he, n, hw⟩ => ?_, ?_, ?_, fun _ => rfl, fun h => by cases h⟩
    · rw [show (⟨#[c]⟩ : ByteArray).data.toList = [c] from rfl, cut_some hc] at he
      exact ⟨he, by rw [hw]; exact below_drewN _ _⟩
    · show a.toArray.size ≤ _; rw [List.size_toArray]; omega
    · show b.toArray.size ≤ _; rw [List.size_toArray]; omega
theorem own_below {w w' : World} {base e size n : Nat} {v : Value} {xs : List Value} (h : w.ownsRow base e size v n xs) (hb : Below w.heap.size w w') : w'.ownsRow base e size v n xs := by
  obtain ⟨hl, h0 | ⟨g, cap, cur, hv, hb', hh, r⟩⟩ := h
  · exact ⟨hl, .inl h0⟩
  · have hg : g < w.heap.size := by
      rcases Nat.lt_or_ge g w.heap.size with h1 | h1
      · exact h1
      · rw [Array.getElem?_eq_none h1] at hh
        cases hh
    exact ⟨hl, .inr ⟨g, cap, cur, hv, hb', (hb.block g hg).trans hh, r⟩⟩
def Decoded (O : Option (List Mt)) (w : World) (e : Ending) (w' : World) : Prop := match O with
  | none => e = .returned (.tuple #[.slice none 0 0, .int .i64 200]) ∧ Below w.heap.size w w'
  | some ms => ∃ a c, e = .returned (.tuple #[.slice a ms.length c, .int .i64 0]) ∧ MsAt w' a ms.length ms ∧ Below w.heap.size w w'
theorem Decoded.no {O : Option (List Mt)} (h : O = none) (hb : Below w.heap.size w w') : Decoded O w (.returned (.tuple #[.slice none 0 0, .int .i64 200])) w' := by
  subst h; exact ⟨rfl, hb⟩
theorem Decoded.yes {O : Option (List Mt)} {ms : List Mt} {a : Option Addr} {c : Nat} (h : O = some ms) (hm : MsAt w' a ms.length ms) (hb : Below w.heap.size w w') : Decoded O w (.returned (.tuple #[.slice a ms.length c, .int .i64 0])) w' := by
  subst h; exact ⟨a, c, rfl, hm, hb⟩
def strOf : Value → Nat | .string b => b.size | _ => 0
theorem src53' (w : World) (x : Mt) : Src (w.alloc (.cells #[.string x.p, .int .i64 x.v] 53)) (some ⟨w.heap.size, 0, none⟩) 1 2 (mc x) := src53 w x
/-- what has been read, and what is left. -/
def Left (l R : Nm) (f : Nat) (ms : List Mt) : Prop := R.length ≤ f ∧ ms.length + f ≤ l.length ∧ decF l.length l = (decF f R).map (ms ++ ·)
theorem left_start (l : Nm) : Left l l l.length [] := ⟨Nat.le_refl _, by simp, by cases decF l.length l <;> rfl⟩
theorem left_bad {l R : Nm} {f : Nat} {ms : List Mt} (h : Left l R f ms) (hd : decF f R = none) : decodeO l = none := by
  unfold decodeO
  rw [h.2.2, hd]
  simp
theorem left_end {l : Nm} {f : Nat} {ms : List Mt} (h : Left l [] f ms) (hl : l.length ≤ 1024) : decodeO l = if checkB ms then some ms else none := by
  unfold decodeO
  rw [h.2.2, decF_nil, if_pos hl]
  simp
theorem left_next {l R x r : Nm} {f : Nat} {ms : List Mt} {m : Mt} (h : Left l R f ms) (hc : cut1 10 R = some (x, r)) (hm : lineO x = some m) : ∃ g, Left l r g (ms ++ [m]) := by
  obtain ⟨h1, h2, h3⟩ := h
  have hl := congrArg List.length (cut1_some hc).1
  rw [List.length_append, List.length_cons] at hl
  cases f with
  | zero => omega
  | succ g =>
    refine ⟨g, by omega, by rw [List.length_append, List.length_singleton]; omega, ?_⟩
    rw [h3, decF_line hc hm]
    cases decF g r with
    | none => rfl
    | some y => simp
set_option maxHeartbeats 4000000 in
theorem decode_any (s : ByteArray) (w : World) (hs : s.size ≤ 4194304) (hm : Mx w) : Calls Tryd.prog 10 #[.string s] w (Decoded (decodeO s.data.toList) w) := by
  obtain ⟨l, hl⟩ : ∃ l, l = s.data.toList := ⟨_, rfl⟩
  rw [← hl]
  have hll : l.length = s.size := by rw [hl]; exact (Lib.size_eq s).symm
  by_cases h1 : 1024 < s.size
  · have HE := Lib.hid (show decodeO l = none by unfold decodeO; rw [if_neg (by omega)])
    have q1 : decide ((1024 : Int) < (s.size : Int)) = true := by rw [decide_eq_true_iff]; omega
    clear hm hl hll h1
    go_enter Tryd.func10, Tryd.ntmps10
    go_wp2_with fail
    exact ret_two rfl rfl (x := .slice none 0 0) (y := .int .i64 200) rfl rfl (Decoded.no HE.out (Below.refl _ _))
  have q1 : decide ((1024 : Int) < (s.size : Int)) = false := by rw [decide_eq_false_iff_not]; omega
  have HM := Lib.hid hm
  have hl1 : l.length ≤ 1024 := by omega
  have HL := Lib.hid hl1
  have HS0 := Lib.hid (show Left l s.data.toList l.length [] by rw [← hl]; exact left_start l)
  obtain ⟨i0, hi, hz0, hz1, hz2⟩ := info_parts row53
  have HI := Lib.hid hi
  have HZZ := Lib.hid hz0
  have hs0 : s.size ≤ 1024 := by omega
  clear hm hl hll h1 hl1 hi hz0
  go_enter Tryd.func10, Tryd.ntmps10
  go_wp2_with fail
  go_loopw [0, 4] (fun sv mv wr => ∃ (R : ByteArray) (f : Nat) (ms : List Mt), sv = .string R ∧ R.size ≤ 1024 ∧ Left l R.data.toList f ms ∧ wr.ownsRow w.heap.size 53 2 mv ms.length (mcells ms) ∧ (∀ x ∈ ms, x.p.size ≤ 1024) ∧ Below w.heap.size w wr) (fun sv _ _ => strOf sv)
  case atStart => exact ⟨s, _, [], rfl, hs0, HS0.out, World.ownsRow_nil _ _ _ _, (fun x hx => by cases hx), Below.refl _ _⟩
  case round =>
    obtain ⟨R, f, ms, rfl, hR, hleft, hown, hsz, hb⟩ := hrel
    obtain ⟨ud, uc, rfl, huc⟩ := own_shape hown
    have HB := Lib.hid hb
    have HLF := Lib.hid hleft
    have HOW := Lib.hid hown
    have HSZ := Lib.hid hsz
    have hml : ms.length ≤ 1024 := by have := hleft.2.1; have := HL.out; omega
    clear hb hleft hown hsz
    by_cases h0 : R.size = 0
    · have hRn : R.data.toList = [] := List.length_eq_zero_iff.1 (by rw [← Lib.size_eq]; exact h0)
      have he : R.toList.isEmpty = true := by rw [Lib.toList_data, hRn]; rfl
      have hE := left_end (by have := HLF.out; rwa [hRn] at this) HL.out
      have C := check_any ud ms.length uc ms (w := wr) (own_MsAt HOW.out rfl) (fun x hx => Nat.le_trans (HSZ.out x hx) (by omega)) (HM.out.below HB.out) (by omega)
      have HAT := Lib.hid (own_MsAt HOW.out rfl)
      unfold checkE at C
      obtain ⟨n, hn⟩ : ∃ n, n = ms.length := ⟨_, rfl⟩
      clear h0 hRn
      cases hcb : checkB ms with
      | false =>
        rw [hcb] at C hE
        have HE := Lib.hid hE
        have C := Lib.hid C
        rw [← hn] at C ⊢
        clear hE hcb hn
        go_wp2_with fail
        refine C.out.mono ?_
        rintro e w1 ⟨rfl, b1⟩
        have HB1 := Lib.hid (HB.out.trans (b1.mono HB.out.size))
        clear b1 C
        go_wp2_with fail
        exact ret_two rfl rfl (x := .slice none 0 0) (y := .int .i64 200) rfl rfl (Decoded.no HE.out HB1.out)
      | true =>
        rw [hcb] at C hE
        have HE := Lib.hid hE
        have C := Lib.hid C
        have HN := Lib.hid hn
        rw [← hn] at C ⊢
        clear hE hcb hn
        go_wp2_with fail
        refine C.out.mono ?_
        rintro e w1 ⟨rfl, b1⟩
        have HB1 := Lib.hid (HB.out.trans (b1.mono HB.out.size))
        have HA1 := Lib.hid (HAT.out.below b1 (Nat.le_refl _))
        clear b1 C
        go_wp2_with fail
        have hn := HN.out
        subst hn
        exact ret_two rfl rfl (x := .slice ud ms.length uc) (y := .int .i64 0) rfl rfl (Decoded.yes HE.out HA1.out HB1.out)
    · have he : R.toList.isEmpty = false := by
        rw [Lib.toList_data, List.isEmpty_eq_false_iff]
        intro e
        exact h0 (by rw [Lib.size_eq, e]; rfl)
      have hRne : R.data.toList ≠ [] := fun e => h0 (by rw [Lib.size_eq, e]; rfl)
      obtain ⟨X, R', is, c1, hX, hR', hy1, hn1⟩ := cut_any R 10 (by omega)
      obtain ⟨V, P, has, c2, hV, hP, hy2, hn2⟩ := cut_any X 32 (by omega)
      have c3 := fun w1 => whole_any V w1 (by omega)
      unfold CutTo at c1 c2
      unfold Wholed at c3
      obtain ⟨num, hnum⟩ : ∃ b, b = numB V.data.toList := ⟨_, rfl⟩
      rw [← hnum] at c3
      have C1 := Lib.hid c1
      have C2 := Lib.hid c2
      have C3 := Lib.hid c3
      have HNO := Lib.hid (show (is && has && num) = false → decodeO l = none from fun h => left_bad HLF.out (by
        cases is with
        | false => exact decF_tail hRne (hn1 rfl)
        | true =>
          obtain ⟨f, rfl⟩ : ∃ g, f = g + 1 := ⟨f - 1, by
            have h5 := HLF.out.1
            have h6 := List.length_pos_iff.2 hRne
            omega⟩
          cases has with
          | false => exact decF_bad (hy1 rfl) (line_none (hn2 rfl))
          | true => exact decF_bad (hy1 rfl) (line_no (hy2 rfl) (by rw [← hnum]; exact h))))
      have HYES := Lib.hid (show is = true → has = true → num = true → ∃ g, Left l R'.data.toList g (ms ++ [⟨P, ((val V.data.toList : Nat) : Int)⟩]) ∧ R'.size < R.size from fun h1 h2 h3 => by
        obtain ⟨g, hg⟩ := left_next HLF.out (hy1 h1) (line_yes (hy2 h2) (by rw [← hnum]; exact h3))
        have hl := congrArg List.length (cut1_some (hy1 h1)).1
        rw [List.length_append, List.length_cons, ← Lib.size_eq, ← Lib.size_eq, ← Lib.size_eq] at hl
        exact ⟨g, hg, by omega⟩)
      have HVN := Lib.hid hnum
      clear c1 c2 c3 hy1 hn1 hy2 hn2 hnum h0 hRne
      cases is with
      | false =>
        have HE := Lib.hid (HNO.out rfl)
        go_wp2_with fail
        refine (C1.out _ (HM.out.below HB.out)).mono ?_
        rintro e w1 ⟨rfl, b1⟩
        have HB1 := Lib.hid (HB.out.trans (b1.mono HB.out.size))
        clear b1
        go_wp2_with fail
        refine (C2.out _ (HM.out.below HB1.out)).mono ?_
        rintro e w2 ⟨rfl, b2⟩
        have HB2 := Lib.hid (HB1.out.trans (b2.mono HB1.out.size))
        clear b2
        go_wp2_with fail
        refine (C3.out _).mono ?_
        rintro e w3 ⟨nn, rfl, hnn, b3⟩
        have HB3 := Lib.hid (HB2.out.trans (b3.mono HB2.out.size))
        clear b3
        clear hnn
        go_wp2_with fail
        exact ret_two rfl rfl (x := .slice none 0 0) (y := .int .i64 200) rfl rfl (Decoded.no HE.out HB3.out)
      | true =>
        cases has with
        | false =>
          have HE := Lib.hid (HNO.out rfl)
          go_wp2_with fail
          refine (C1.out _ (HM.out.below HB.out)).mono ?_
          rintro e w1 ⟨rfl, b1⟩
          have HB1 := Lib.hid (HB.out.trans (b1.mono HB.out.size))
          clear b1
          go_wp2_with fail
          refine (C2.out _ (HM.out.below HB1.out)).mono ?_
          rintro e w2 ⟨rfl, b2⟩
          have HB2 := Lib.hid (HB1.out.trans (b2.mono HB1.out.size))
          clear b2
          go_wp2_with fail
          refine (C3.out _).mono ?_
          rintro e w3 ⟨nn, rfl, hnn, b3⟩
          have HB3 := Lib.hid (HB2.out.trans (b3.mono HB2.out.size))
          clear b3
          clear hnn
          go_wp2_with fail
          exact ret_two rfl rfl (x := .slice none 0 0) (y := .int .i64 200) rfl rfl (Decoded.no HE.out HB3.out)
        | true =>
          cases num with
          | false =>
            have HE := Lib.hid (HNO.out rfl)
            go_wp2_with fail
            refine (C1.out _ (HM.out.below HB.out)).mono ?_
            rintro e w1 ⟨rfl, b1⟩
            have HB1 := Lib.hid (HB.out.trans (b1.mono HB.out.size))
            clear b1
            go_wp2_with fail
            refine (C2.out _ (HM.out.below HB1.out)).mono ?_
            rintro e w2 ⟨rfl, b2⟩
            have HB2 := Lib.hid (HB1.out.trans (b2.mono HB1.out.size))
            clear b2
            go_wp2_with fail
            refine (C3.out _).mono ?_
            rintro e w3 ⟨nn, rfl, hnn, b3⟩
            have HB3 := Lib.hid (HB2.out.trans (b3.mono HB2.out.size))
            clear b3
            clear hnn
            go_wp2_with fail
            exact ret_two rfl rfl (x := .slice none 0 0) (y := .int .i64 200) rfl rfl (Decoded.no HE.out HB3.out)
          | true =>
            obtain ⟨g, hg, hlt⟩ := HYES.out rfl rfl rfl
            have HG := Lib.hid hg
            have hps : P.size ≤ 1024 := by omega
            clear hg
            go_wp2_with fail
            refine (C1.out _ (HM.out.below HB.out)).mono ?_
            rintro e w1 ⟨rfl, b1⟩
            have HB1 := Lib.hid (HB.out.trans (b1.mono HB.out.size))
            have HO1 := Lib.hid (own_below HOW.out b1)
            clear b1
            go_wp2_with fail
            refine (C2.out _ (HM.out.below HB1.out)).mono ?_
            rintro e w2 ⟨rfl, b2⟩
            have HB2 := Lib.hid (HB1.out.trans (b2.mono HB1.out.size))
            have HO2 := Lib.hid (own_below HO1.out b2)
            clear b2
            go_wp2_with fail
            refine (C3.out _).mono ?_
            rintro e w3 ⟨nn, rfl, hnn, b3⟩
            have HB3 := Lib.hid (HB2.out.trans (b3.mono HB2.out.size))
            have HO3 := Lib.hid (own_below HO2.out b3)
            have HNN := Lib.hid (hnn (by first | rfl | trivial))
            clear b3
            have hb4 : Below w.heap.size w (w3.alloc (.cells #[.string P, .int .i64 nn] 53)) := HB3.out.alloc HB3.out.size _
            have HB4 := Lib.hid hb4
            have HR := Lib.hid (HO3.out.alloc (.cells #[.string P, .int .i64 nn] 53))
            have HSX := Lib.hid (src53 w3 ⟨P, nn⟩)
            have HMC := Lib.hid (mcells_snoc ms ⟨P, nn⟩)
            clear hb4 hnn
            go_wp2_with (at_builtin; refine wpList_append_src rfl (.tmp 45) (.tmp 49) 22 rfl w.heap.size 53 i0 _ 2 24 Tryd.underlying22 HI.out HZZ.out hz1 hz2 rfl (by decide) _ _ _ rfl HR.out _ _ _ _ rfl HSX.out (by unfold maxLen; omega) (by omega) HB4.out.size ?_; intro v7 w7 own7 g7; have HG7 := Lib.hid (HB4.out.grown g7 HB4.out.size (own_ge HR.out)); have HO7 := Lib.hid own7; clear own7 g7)
            go_roundw
            case rel => exact ⟨R', g, ms ++ [⟨P, nn⟩], rfl, by omega, by have := HNN.out; subst this; exact HG.out, by rw [List.length_append, List.length_singleton, HMC.out]; exact HO7.out, fun x hx => by rcases List.mem_append.1 hx with hx | hx; exact HSZ.out x hx; rw [List.mem_singleton] at hx; subst hx; exact hps, HG7.out⟩
            case measure => exact hlt
end Go.Proofs.YtbkjhogfpcmcbaaDoor
