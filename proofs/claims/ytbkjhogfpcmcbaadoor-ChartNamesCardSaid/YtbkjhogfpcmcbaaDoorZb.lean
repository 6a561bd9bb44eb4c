/- zname: names: what it computes. Conditions: the path has at most 4194304 bytes; the library's variable holds a number. -/
import Derived.Test.YtbkjhogfpcmcbaaDoorZa
namespace Go.Proofs.YtbkjhogfpcmcbaaDoor
open Go Go.RowKit Zn
set_option linter.unusedVariables false
set_option linter.unusedSimpArgs false
variable {w w' : World}

/-- the library's own variable holds some number. -/
def Mx (w : World) : Prop := ∃ m, w.cell? ⟨0, 0, none⟩ = some (.int .i64 m)
theorem Mx.lt (h : Mx w) : 0 < w.heap.size := by
  obtain ⟨m, hm⟩ := h
  have := World.block_lt_of_cell? w _ hm
  exact this
theorem Mx.below (h : Mx w) (hb : Below w.heap.size w w') : Mx w' := by
  have hl := h.lt
  obtain ⟨m, hm⟩ := h
  exact ⟨m, (hb.cell (p := ⟨0, 0, none⟩) hl).trans hm⟩
/-- texts that are read off a row. -/
def Strs (w : World) (ad : Option Addr) (L : List Nm) : Prop :=
  L = [] ∨ ∃ g off, ad = some ⟨g, off, none⟩ ∧ g < w.heap.size ∧ ∀ k x, L[k]? = some x → w.cell? ⟨g, off + k, none⟩ = some (.string ⟨x.toArray⟩)
theorem Strs.get {ad : Option Addr} {L : List Nm} (h : Strs w ad L) (k : Nat) (x : Nm) (hk : L[k]? = some x) : ∃ g off, ad = some ⟨g, off, none⟩ ∧ g < w.heap.size ∧ w.cell? ⟨g, off + k, none⟩ = some (.string ⟨x.toArray⟩) := by
  rcases h with rfl | ⟨g, off, rfl, h1, h2⟩
  · simp at hk
  · exact ⟨g, off, rfl, h1, h2 k x hk⟩
theorem Strs.below {ad : Option Addr} {L : List Nm} (h : Strs w ad L) (hb : Below w.heap.size w w') : Strs w' ad L := by
  refine h.imp id ?_
  rintro ⟨g, off, rfl, h1, h2⟩
  exact ⟨g, off, rfl, Nat.lt_of_lt_of_le h1 hb.size, fun k x hk => (hb.cell (p := ⟨g, off + k, none⟩) h1).trans (h2 k x hk)⟩
theorem Strs.take {ad : Option Addr} {L : List Nm} (h : Strs w ad L) (n : Nat) : Strs w ad (L.take n) := by
  rcases h with rfl | ⟨g, off, rfl, h1, h2⟩
  · exact .inl (by simp)
  · refine .inr ⟨g, off, rfl, h1, fun k x hk => h2 k x ?_⟩
    rw [List.getElem?_take] at hk
    split at hk
    · exact hk
    · cases hk

theorem count_cons (c : UInt8) (t : Nm) : Lib.count (c :: t) [47] = (if c = 47 then 1 else 0) + Lib.count t [47] := by
  by_cases h : c = 47
  · subst h; rw [Lib.count_cons_eq, if_pos rfl]
  · rw [Lib.count_cons_ne _ _ _ h, if_neg h]; omega
theorem split_is (l : Nm) : Lib.splitK [47] 0 (Lib.count l [47]) l = splitS l := by
  induction l with
  | nil => rfl
  | cons c t ih =>
    rw [count_cons]
    by_cases h : c = 47
    · subst h
      rw [if_pos rfl, Nat.add_comm, Lib.splitK]
      have hix : Lib.index (47 :: t) [47] = 0 := by rw [Lib.index]; simp [List.isPrefixOf]
      rw [hix]
      simp only [splitS, if_pos]
      rw [← ih]
      rfl
    · rw [if_neg h, Nat.zero_add]
      have hp : ([47] : List UInt8).isPrefixOf (c :: t) = false := by simp [List.isPrefixOf]; exact fun e => h e.symm
      have hix : Lib.index (c :: t) [47] = if Lib.index t [47] == -1 then -1 else Lib.index t [47] + 1 := by rw [Lib.index, hp]; simp
      rw [splitS, if_neg h, ← ih]
      cases hc : Lib.count t [47] with
      | zero => rfl
      | succ k =>
        have hm : ¬ Lib.index t [47] = -1 := by intro e; rw [Lib.count_miss e] at hc; cases hc
        have hge := Lib.index_ge t [47]
        have hb : (Lib.index t [47] == -1) = false := by simpa using hm
        rw [hb] at hix
        simp only [Bool.false_eq_true, if_false] at hix
        have hb2 : (Lib.index (c :: t) [47] == -1) = false := by rw [hix]; simp; omega
        have hn : (Lib.index (c :: t) [47]).toNat = (Lib.index t [47]).toNat + 1 := by rw [hix]; omega
        rw [Lib.splitK, Lib.splitK, hb, hb2, hn]
        simp only [Bool.false_eq_true, if_false, Nat.add_zero, List.take_succ_cons, List.length_cons, List.length_nil]
        rfl
def slash : ByteArray := ⟨#[47]⟩
theorem splitB_is (s : ByteArray) : (Lib.splitB slash 0 (Lib.countB s slash) s).map (·.data.toList) = splitS s.data.toList := by
  rw [Lib.splitB_data]
  exact split_is s.data.toList
theorem string_mk (s : ByteArray) : Value.string s = .string ⟨s.data.toList.toArray⟩ := rfl
theorem split_any (s : ByteArray) (w : World) (hs : s.size ≤ 4194304) (hm : Mx w) :
    Calls Tryd.prog 70 #[.string s, .string slash] w fun e w' => ∃ g, e = .returned (.slice (some ⟨g, 0, none⟩) (splitS s.data.toList).length (splitS s.data.toList).length) ∧ Strs w' (some ⟨g, 0, none⟩) (splitS s.data.toList) ∧ Below w.heap.size w w' := by
  obtain ⟨m, hm⟩ := hm
  refine (Tryd.strings_Split s slash m w (by omega) hm (by decide)).mono ?_
  rintro e w' ⟨rfl, rfl⟩
  have hl := Lib.splitB_all slash (by decide) 0 _ s rfl
  have hm := splitB_is s
  have hlen : (splitS s.data.toList).length = Lib.countB s slash + 1 := by rw [← hm, List.length_map, hl]
  refine ⟨w.heap.size, by rw [hlen], ?_, (Below.refl _ _).alloc (Nat.le_refl _) _⟩
  refine .inr ⟨_, 0, rfl, by simp, fun k x hk => ?_⟩
  rw [← hm, List.getElem?_map] at hk
  cases hb : (Lib.splitB slash 0 (Lib.countB s slash) s)[k]? with
  | none => rw [hb] at hk; cases hk
  | some b =>
    rw [hb] at hk
    obtain rfl : b.data.toList = x := by simpa using hk
    have hbx := heap_alloc_new w (.cells ((Lib.splitB slash 0 (Lib.countB s slash) s).map Value.string).toArray 9)
    rw [cell_of_row _ _ _ _ _ _ hbx]
    simp [hb]
def Named (w : World) (l : Nm) (e : Ending) (w' : World) : Prop :=
  (∃ ad c, e = .returned (.tuple #[.slice ad (lsOf l).length c, .bool (validZ l)]) ∧ (lsOf l).length ≤ c ∧ Strs w' ad (lsOf l)) ∧ Below w.heap.size w w'
theorem Named.no {l : Nm} (h : namesO l = none) (hb : Below w.heap.size w w') : Named w l (.returned (.tuple #[.slice none 0 0, .bool false])) w' := by
  have h1 : lsOf l = [] := by unfold lsOf; rw [h]; rfl
  have h2 : validZ l = false := by unfold validZ; rw [h]; rfl
  refine ⟨⟨none, 0, by rw [h1, h2]; rfl, by rw [h1]; exact Nat.le_refl _, .inl h1⟩, hb⟩
theorem Named.yes {l : Nm} {L : List Nm} {ad : Option Addr} {c n : Nat} (h : namesO l = some L) (hn : L.length = n) (hc : L.length ≤ c) (hs : Strs w' ad L) (hb : Below w.heap.size w w') : Named w l (.returned (.tuple #[.slice ad n c, .bool true])) w' := by
  have h1 : lsOf l = L := by unfold lsOf; rw [h]; rfl
  have h2 : validZ l = true := by unfold validZ; rw [h]; rfl
  refine ⟨⟨ad, c, by rw [h1, h2, hn], by rw [h1]; exact hc, by rw [h1]; exact hs⟩, hb⟩
theorem ret_two {fn : Func} {R : Ending → World → Prop} {act : Act} {w : World} {x y : Value} {t u : Nat} (h : fn.results = #[.tmp t, .tmp u]) (hd : act.defers = []) (ht : act.tmps.getD t undef = x) (hu : act.tmps.getD u undef = y)
    (hR : R (.returned (.tuple #[x, y])) w) : bodyPost Tryd.prog fn R .ret act w := by
  refine bodyPost_ret (v := .tuple #[x, y]) ?_ hd hR
  rw [Array.getD_eq_getD_getElem?] at ht hu
  simp [results, h, ht, hu, go_sem]
theorem prefix_slash (l : Nm) : Lib.hasPrefix l [47] = true ↔ ∃ t, l = 47 :: t := by
  unfold Lib.hasPrefix
  rw [List.isPrefixOf_iff_prefix]
  constructor
  · rintro ⟨t, rfl⟩; exact ⟨t, rfl⟩
  · rintro ⟨t, rfl⟩; exact ⟨t, rfl⟩
set_option maxHeartbeats 1000000 in
theorem names_any (s : ByteArray) (w : World) (hs : s.size ≤ 4194304) (hm : Mx w) : Calls Tryd.prog 66 #[.string s] w (Named w s.data.toList) := by
  have hsl : s.data.toList.length = s.size := (Lib.size_eq s).symm
  have HSL := Lib.hid hsl
  have HM := Lib.hid hm
  clear hsl hm
  by_cases h0 : s.data.toList = [47]
  · have HE := Lib.hid (show namesO s.data.toList = some [] by rw [h0]; rfl)
    have h0' : (s.toList == [47]) = true := by rw [Lib.toList_data, h0]; rfl
    clear h0
    go_enter Tryd.func66, Tryd.ntmps66
    go_wp2_with fail
    exact ret_two rfl rfl rfl rfl (Named.yes HE.out rfl (Nat.le_refl _) (.inl rfl) (Below.refl _ _))
  have h0' : (s.toList == [47]) = false := by rw [Lib.toList_data]; simpa using h0
  have C1 := Tryd.strings_CutPrefix s slash w
  unfold slash at C1
  by_cases hp : Lib.hasPrefix s.data.toList [47] = true
  rotate_left
  · have hp' : Lib.hasPrefix s.data.toList [47] = false := by simpa using hp
    have HE := Lib.hid (show namesO s.data.toList = none by
      cases hl : s.data.toList with
      | nil => rfl
      | cons c t =>
        unfold namesO
        rw [if_neg (by rw [← hl]; exact h0)]
        simp only []
        rw [if_neg]
        rintro ⟨rfl, _⟩
        exact hp ((prefix_slash _).2 ⟨t, hl⟩))
    rw [show (⟨#[47]⟩ : ByteArray).data.toList = [47] from rfl, hp', show Lib.trimPrefix s.data.toList [47] = s.data.toList by unfold Lib.trimPrefix; rw [hp']; rfl] at C1
    have C1 := Lib.hid C1
    have C2 := Lib.hid (split_any s w hs HM.out)
    unfold slash at C2
    clear hp hp' h0
    go_enter Tryd.func66, Tryd.ntmps66
    go_wp2_with fail
    refine C1.out.mono ?_
    rintro e w1 ⟨rfl, rfl⟩
    go_wp2_with fail
    refine C2.out.mono ?_
    rintro e w2 ⟨g, rfl, hS, b2⟩
    have B2 := Lib.hid b2
    clear hS b2
    go_wp2_with fail
    exact ret_two rfl rfl rfl rfl (Named.no HE.out B2.out)
  · obtain ⟨t, ht⟩ := (prefix_slash _).1 hp
    have HT := Lib.hid ht
    rw [show (⟨#[47]⟩ : ByteArray).data.toList = [47] from rfl, hp, show Lib.trimPrefix s.data.toList [47] = t by unfold Lib.trimPrefix; rw [hp, ht]; rfl] at C1
    have C1 := Lib.hid C1
    have hts : t.length ≤ 4194304 := by have := HSL.out; rw [ht, List.length_cons] at this; omega
    have C2 := split_any ⟨t.toArray⟩ w (by show t.toArray.size ≤ _; simpa using hts) HM.out
    rw [show (⟨t.toArray⟩ : ByteArray).data.toList = t from rfl] at C2
    unfold slash at C2
    obtain ⟨L, hL⟩ : ∃ L, L = splitS t := ⟨_, rfl⟩
    rw [← hL] at C2
    have hlp : ∀ x ∈ L, x.length ≤ 4194304 := fun x hx => by rw [hL] at hx; exact Nat.le_trans (splitS_parts t x hx) hts
    have HLP := Lib.hid hlp
    have hll : L.length ≤ 4194305 := by rw [hL]; exact Nat.le_trans (splitS_len t) (by omega)
    have HNO := Lib.hid (show ¬ (L.length ≤ 8 ∧ L.all nameB = true) → namesO s.data.toList = none from fun h => by
      rw [HT.out]; unfold namesO
      rw [if_neg (by rw [← HT.out]; exact h0)]
      simp only []
      rw [if_neg (by rw [← hL]; exact fun h2 => h h2.2)])
    have HYES := Lib.hid (show L.length ≤ 8 → L.all nameB = true → namesO s.data.toList = some L from fun h h2 => by
      rw [HT.out]; unfold namesO
      rw [if_neg (by rw [← HT.out]; exact h0)]
      simp only []
      rw [← hL, if_pos ⟨by first | rfl | trivial, h, h2⟩])
    have C2 := Lib.hid C2
    clear hp h0 ht hL hlp
    by_cases h8 : 8 < L.length
    · go_enter Tryd.func66, Tryd.ntmps66
      go_wp2_with fail
      refine C1.out.mono ?_
      rintro e w1 ⟨rfl, rfl⟩
      go_wp2_with fail
      refine C2.out.mono ?_
      rintro e w2 ⟨g, rfl, hS, b2⟩
      have B2 := Lib.hid b2
      clear hS b2
      go_wp2_with fail
      exact ret_two rfl rfl rfl rfl (Named.no (HNO.out (fun h => by omega)) B2.out)
    · have h8' : decide (8 < L.length) = false := by simpa using h8
      have h8i : decide ((8 : Int) < (L.length : Int)) = false := by simp; omega
      go_enter Tryd.func66, Tryd.ntmps66
      go_wp2_with fail
      refine C1.out.mono ?_
      rintro e w1 ⟨rfl, rfl⟩
      go_wp2_with fail
      refine C2.out.mono ?_
      rintro e w2 ⟨g, rfl, hS, b2⟩
      have HS := Lib.hid hS
      have B2 := Lib.hid b2
      clear hS b2 C1 C2
      go_wp2_with fail
      go_loopw [8, 27] (fun _ i wr => ∃ k : Nat, k ≤ L.length ∧ i = .int .i64 k ∧ (L.take k).all nameB = true ∧ Below w2.heap.size w2 wr) (fun _ i _ => L.length - (intOf i).toNat)
      case atStart => exact ⟨0, Nat.zero_le _, rfl, rfl, Below.refl _ _⟩
      case round =>
        obtain ⟨k, hk, rfl, hall, hbel⟩ := hrel
        have HA := Lib.hid hall
        have HB := Lib.hid hbel
        clear hall hbel
        by_cases hlt : k < L.length
        · obtain ⟨x, hx⟩ : ∃ x, L[k]? = some x := ⟨_, List.getElem?_eq_getElem hlt⟩
          obtain ⟨g', off, hg', hgl, d0⟩ := (HS.out.below HB.out).get k x hx
          obtain ⟨rfl, rfl⟩ : g = g' ∧ 0 = off := by injection hg' with h1; injection h1 with h2 h3; exact ⟨h2, h3⟩
          rw [Nat.zero_add] at d0
          have hxl := HLP.out x (List.mem_of_getElem? hx)
          have C3 := name_any ⟨x.toArray⟩ wr (by show x.toArray.size ≤ _; rw [List.size_toArray]; omega)
          rw [show (⟨x.toArray⟩ : ByteArray).data.toList = x from rfl] at C3
          have HX := Lib.hid hx
          clear hx hg'
          cases hz : nameB x
          · rw [hz] at C3
            have C3 := Lib.hid C3
            have HZ := Lib.hid (show ¬ (L.length ≤ 8 ∧ L.all nameB = true) from fun h => by
              have := List.all_eq_true.1 h.2 x (List.mem_of_getElem? HX.out); rw [hz] at this; cases this)
            clear hz
            go_wp2_with fail
            refine C3.out.mono ?_
            rintro e w3 ⟨rfl, b3⟩
            have B3 := Lib.hid ((B2.out.trans (HB.out.mono B2.out.size)).trans (b3.mono (Nat.le_trans B2.out.size HB.out.size)))
            clear b3
            go_wp2_with fail
            exact ret_two rfl rfl rfl rfl (Named.no (HNO.out HZ.out) B3.out)
          · rw [hz] at C3
            have C3 := Lib.hid C3
            have HZ := Lib.hid hz
            clear hz
            go_wp2_with fail
            refine C3.out.mono ?_
            rintro e w3 ⟨rfl, b3⟩
            have B3 := Lib.hid (HB.out.trans (b3.mono HB.out.size))
            clear b3
            go_wp2_with fail
            go_roundw
            case rel => exact ⟨k + 1, by omega, by go_num, by rw [List.take_add_one, HX.out, List.all_append, HA.out]; simp [HZ.out], B3.out⟩
            case measure => simp [intOf]; omega
        · obtain rfl : k = L.length := by omega
          rw [List.take_length] at HA
          go_wp2_with fail
          exact ret_two rfl rfl rfl rfl (Named.yes (HYES.out (by omega) HA.out) rfl (Nat.le_refl _) (HS.out.below HB.out) (B2.out.trans (HB.out.mono B2.out.size)))
end Go.Proofs.YtbkjhogfpcmcbaaDoor
