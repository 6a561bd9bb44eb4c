/- zname: the document's Names. Conditions: the text has at most 4194304 bytes. -/
import Derived.Test.YtbkjhogfpcmcbaaDoorZh
namespace Go.Proofs.YtbkjhogfpcmcbaaDoor
open Go Go.RowKit Zn
set_option linter.unusedVariables false
set_option linter.unusedSimpArgs false
variable {w w' : World}

def scells (L : List Nm) : List Value := L.map fun x => .string ⟨x.toArray⟩
theorem scells_len (L : List Nm) : (scells L).length = L.length := by simp [scells]
theorem scells_one (L : List Nm) : ∀ u ∈ scells L, u.oneCell' = true := by
  intro u hu; obtain ⟨x, _, rfl⟩ := List.mem_map.1 hu; rfl
theorem scells_snoc (L : List Nm) (x : Nm) : scells (L ++ [x]) = scells L ++ [.string ⟨x.toArray⟩] := by simp [scells]
theorem row9 : (Tryd.prog.info? 9).map (fun i => (i.zero, i.size, i.bytes)) = some (some (.string ⟨#[]⟩), 1, 16) := by kernel_rfl
theorem src9 (w : World) (x : ByteArray) : Src (w.alloc (.cells #[.string x] 9)) (some ⟨w.heap.size, 0, none⟩) 1 1 [.string x] := by
  refine ⟨rfl, by simp [Value.oneCell'], .inr ⟨_, rfl, fun j u hj => ?_⟩⟩
  rw [Addr.add_lit, Nat.zero_add, (Box.new w 9 #[.string x]).cell j]
  simpa using hj
theorem strs_own {base c n : Nat} {ad : Option Addr} {L : List Nm} (h : w.ownsRow base 9 1 (.slice ad n c) L.length (scells L)) : Strs w ad L := by
  cases L with
  | nil => exact .inl rfl
  | cons q L =>
    rcases h.2 with ⟨_, h0⟩ | ⟨g, cap, cur, he, _⟩
    · cases h0
    · obtain ⟨rfl, -, rfl⟩ : ad = some ⟨g, 0, none⟩ ∧ n = (q :: L).length ∧ c = cap := by simpa using he
      have hC := h.cells (g := g) rfl
      refine .inr ⟨g, 0, rfl, own_lt h g rfl, fun k x hk => ?_⟩
      have := hC k (.string ⟨x.toArray⟩) (by simp only [scells, List.getElem?_map, hk]; rfl)
      rwa [Addr.add_lit] at this

/-- the document's way through a path: what is split off ahead of i. -/
structure Cut (l : Nm) (i : Nat) (out : List Nm) (fr : Nat) : Prop where
  lo : 1 ≤ i
  flo : 1 ≤ fr
  fhi : fr ≤ i
  mid : i ≤ l.length → splitS (l.drop 1) = out ++ splitS (l.drop fr) ∧ free ((l.drop fr).take (i - fr))
  fin : l.length < i → out = splitS (l.drop 1)
  many : out.length ≤ i
theorem Cut.start (l : Nm) (h : 1 ≤ l.length) : Cut l 1 [] 1 := ⟨by omega, by omega, by omega, fun _ => ⟨rfl, by simp [free]⟩, fun h2 => by omega, by simp⟩
theorem Cut.on {l : Nm} {i : Nat} {out : List Nm} {fr : Nat} (h : Cut l i out fr) (c : UInt8) (hc : l[i]? = some c) (hn : c ≠ 47) : Cut l (i + 1) out fr := by
  have hi := (List.getElem?_eq_some_iff.1 hc).1
  refine ⟨by have := h.lo; omega, h.flo, by have := h.fhi; omega, fun _ => ⟨(h.mid (by omega)).1, ?_⟩, fun h2 => by omega, by have := h.many; omega⟩
  have h1 := (h.mid (by omega)).2
  have hf := h.fhi
  rw [show i + 1 - fr = (i - fr) + 1 by omega, List.take_add_one, List.getElem?_drop, show fr + (i - fr) = i by omega, hc]
  intro d hd
  rcases List.mem_append.1 hd with hd | hd
  · exact h1 d hd
  · simp at hd; subst hd; exact hn
theorem Cut.cut {l : Nm} {i : Nat} {out : List Nm} {fr : Nat} (h : Cut l i out fr) (hc : l[i]? = some 47) : Cut l (i + 1) (out ++ [(l.drop fr).take (i - fr)]) (i + 1) := by
  have hi := (List.getElem?_eq_some_iff.1 hc).1
  have hf := h.fhi
  obtain ⟨h1, h2⟩ := h.mid (by omega)
  have hd : l.drop fr = (l.drop fr).take (i - fr) ++ 47 :: l.drop (i + 1) := by
    conv => lhs; rw [← List.take_append_drop (i - fr) (l.drop fr)]
    rw [List.drop_drop, show fr + (i - fr) = i by omega, List.drop_eq_getElem_cons hi, (List.getElem?_eq_some_iff.1 hc).2]
  have hs : splitS (l.drop fr) = (l.drop fr).take (i - fr) :: splitS (l.drop (i + 1)) := by
    conv => lhs; rw [hd]
    exact splitS_app _ h2
  refine ⟨by omega, by omega, by omega, fun h3 => ⟨by rw [h1, hs]; simp, by simp [free]⟩, fun h3 => by omega, by have := h.many; simp; omega⟩
theorem Cut.last {l : Nm} {out : List Nm} {fr : Nat} (h : Cut l l.length out fr) : Cut l (l.length + 1) (out ++ [(l.drop fr).take (l.length - fr)]) (l.length + 1) := by
  have hf := h.fhi
  obtain ⟨h1, h2⟩ := h.mid (by omega)
  have hd : (l.drop fr).take (l.length - fr) = l.drop fr := List.take_of_length_le (by simp)
  rw [hd] at h2
  refine ⟨by omega, by omega, by omega, fun h3 => by omega, fun h3 => by rw [h1, splitS_free h2, hd], by have := h.many; simp; omega⟩

def RNamed (w : World) (l : Nm) (e : Ending) (w' : World) : Prop :=
  (∃ ad n c, e = .returned (.tuple #[.slice ad n c, .bool (validZ l)]) ∧ (validZ l = true → n = (lsOf l).length ∧ n ≤ c ∧ Strs w' ad (lsOf l) ∧ (lsOf l = [] → ad = none ∧ c = 0))) ∧ Below w.heap.size w w'
theorem RNamed.no {l : Nm} {ad : Option Addr} {n c : Nat} (h : namesO l = none) (hb : Below w.heap.size w w') : RNamed w l (.returned (.tuple #[.slice ad n c, .bool false])) w' := by
  have h2 : validZ l = false := by unfold validZ; rw [h]; rfl
  exact ⟨⟨ad, n, c, by rw [h2], fun h3 => by rw [h2] at h3; cases h3⟩, hb⟩
theorem RNamed.yes {l : Nm} {L : List Nm} {ad : Option Addr} {c n : Nat} (h : namesO l = some L) (hn : n = L.length) (hc : n ≤ c) (hs : Strs w' ad L) (h0 : L = [] → ad = none ∧ c = 0) (hb : Below w.heap.size w w') : RNamed w l (.returned (.tuple #[.slice ad n c, .bool true])) w' := by
  have h2 : validZ l = true := by unfold validZ; rw [h]; rfl
  exact ⟨⟨ad, n, c, by rw [h2], fun _ => by rw [ls_of h]; exact ⟨hn, hc, hs, h0⟩⟩, hb⟩
theorem names_no_slash {l : Nm} (h : ∀ t, l ≠ 47 :: t) : namesO l = none := by
  cases l with
  | nil => rfl
  | cons c t =>
    unfold namesO
    rw [if_neg (fun e => h [] e)]
    simp only []
    rw [if_neg]
    rintro ⟨rfl, _⟩
    exact h t rfl
set_option maxRecDepth 100000 in
set_option maxHeartbeats 4000000 in
theorem rnames_any (s : ByteArray) (w : World) (hs : s.size ≤ 4194304) : Calls Tryd.prog 26 #[.string s] w (RNamed w s.data.toList) := by
  have hsl : s.data.toList.length = s.size := (Lib.size_eq s).symm
  have HSL := Lib.hid hsl
  clear hsl
  by_cases h0 : s.data.toList = [47]
  · have HE := Lib.hid (show namesO s.data.toList = some [] by rw [h0]; rfl)
    have h0' : (s.toList == [47]) = true := by rw [Lib.toList_data, h0]; rfl
    clear h0
    go_enter Tryd.func26, Tryd.ntmps26
    go_wp2_with fail
    exact ret_two rfl rfl rfl rfl (RNamed.yes HE.out rfl (Nat.le_refl _) (.inl rfl) (fun _ => ⟨rfl, rfl⟩) (Below.refl _ _))
  have h0' : (s.toList == [47]) = false := by rw [Lib.toList_data]; simpa using h0
  by_cases h1 : s.data.toList = []
  · have HE := Lib.hid (show namesO s.data.toList = none by rw [h1]; rfl)
    have h1' : s.toList.isEmpty = true := by rw [Lib.toList_data, h1]; rfl
    clear h0 h1
    go_enter Tryd.func26, Tryd.ntmps26
    go_wp2_with fail
    exact ret_two rfl rfl rfl rfl (RNamed.no HE.out (Below.refl _ _))
  have h1' : s.toList.isEmpty = false := by rw [Lib.toList_data]; exact isEmpty_no h1
  have hpos : 0 < s.size := by rw [← HSL.out]; exact List.length_pos_iff.2 h1
  obtain ⟨c, hc⟩ : ∃ c, s[0]'hpos = c := ⟨_, rfl⟩
  have hb0 : s.data.toList[0]? = some c := by rw [at_byte s 0 hpos, hc]
  by_cases hc47 : c = 47
  rotate_left
  · have HE := Lib.hid (names_no_slash (l := s.data.toList) (fun t e => hc47 (by rw [e] at hb0; simpa using hb0.symm)))
    have hcn : ((c.toNat : Int) != 47) = true := by
      rw [bne_iff_ne]; intro e; apply hc47
      have : c.toNat = 47 := by omega
      rw [← UInt8.toNat_inj]; exact this
    clear h0 h1 hc47 hb0
    go_enter Tryd.func26, Tryd.ntmps26
    go_wp2_with fail
    exact ret_two rfl rfl rfl rfl (RNamed.no HE.out (Below.refl _ _))
  · subst hc47
    obtain ⟨t, ht⟩ : ∃ t, s.data.toList = 47 :: t := by
      cases hl : s.data.toList with
      | nil => exact absurd hl h1
      | cons d t => rw [hl] at hb0; obtain rfl : d = 47 := by simpa using hb0
                    exact ⟨t, rfl⟩
    obtain ⟨l, hl⟩ : ∃ l, l = s.data.toList := ⟨_, rfl⟩
    have hlen : l.length = s.size := by rw [hl]; exact HSL.out
    have HLEN := Lib.hid hlen
    have HL := Lib.hid hl
    have HST := Lib.hid (Cut.start l (by omega))
    have HN := Lib.hid (show namesO s.data.toList = if (splitS (l.drop 1)).length ≤ 8 ∧ (splitS (l.drop 1)).all nameB = true then some (splitS (l.drop 1)) else none by
      rw [hl]; unfold namesO; rw [if_neg h0, ht]; simp)
    obtain ⟨i0, hi, hz0, hz1, hz2⟩ := info_parts row9
    have HI := Lib.hid hi
    have HZZ := Lib.hid hz0
    clear h0 h1 hb0 ht hl hlen hi hz0
    go_enter Tryd.func26, Tryd.ntmps26
    go_wp2_with fail
    go_loopw [4, 5, 6] (fun ov fv iv wr => ∃ (i fr : Nat) (out : List Nm), i ≤ s.size + 1 ∧ iv = .int .i64 i ∧ fv = .int .i64 fr ∧ Cut l i out fr ∧ wr.ownsRow w.heap.size 9 1 ov out.length (scells out) ∧ Below w.heap.size w wr) (fun _ _ i _ => s.size + 1 - (intOf i).toNat)
    case atStart => exact ⟨1, 1, [], by omega, rfl, rfl, HST.out, World.ownsRow_nil _ _ _ _, Below.refl _ _⟩
    case round =>
      obtain ⟨i, fr, out, hi, rfl, rfl, hcut, hR, hbel⟩ := hrel
      obtain ⟨lad, lc, rfl, hlc⟩ := own_shape hR
      have HC := Lib.hid hcut
      have HR := Lib.hid hR
      have HB := Lib.hid hbel
      have hi1 := hcut.lo
      have hf1 := hcut.flo
      have hf2 := hcut.fhi
      have hmany := hcut.many
      have HLC := Lib.hid hlc
      clear hcut hR hbel hlc
      by_cases hle : i ≤ s.size
      · have hged : decide ((i : Int) ≤ (s.size : Int)) = true := by rw [decide_eq_true_eq]; omega
        have hHB1 := HB.out.size
        by_cases hlast : i = s.size
        · subst hlast
          have HX := Lib.hid (show (s.extract fr s.size).data.toList = (l.drop fr).take (l.length - fr) by rw [Lib.extract_data, ← HL.out, HLEN.out])
          have HCN := Lib.hid (show Cut l (s.size + 1) (out ++ [(l.drop fr).take (l.length - fr)]) (s.size + 1) by have := HC.out; rw [← HLEN.out] at this ⊢; exact this.last)
          have HRA := Lib.hid (HR.out.alloc (.cells #[.string (s.extract fr s.size)] 9))
          have HSX := Lib.hid (src9 wr (s.extract fr s.size))
          have HSZ := Lib.hid (show w.heap.size ≤ (wr.alloc (.cells #[.string (s.extract fr s.size)] 9)).heap.size by simp; omega)
          have hee : ((s.size : Int) == (s.size : Int)) = true := beq_self_eq_true _
          go_wp2_with (at_builtin; refine wpList_append_at rfl (.tmp 34) (.tmp 39) 39 rfl w.heap.size 9 i0 _ 1 16 Tryd.underlying39 HI.out HZZ.out hz1 hz2 rfl (by decide) _ _ _ rfl HRA.out _ _ _ _ rfl HSX.out (by unfold maxLen; omega) (by omega) HSZ.out ?_; intro v6 w6 own6 g6 at6; obtain ⟨ad6, c6, rfl, hc6⟩ := own_shape own6)
          go_roundw
          case rel =>
            refine ⟨s.size + 1, s.size + 1, _, by omega, by go_num, by go_num, HCN.out, ?_, (HB.out.alloc HB.out.size _).grown g6 HSZ.out (own_ge HRA.out)⟩
            rw [scells_snoc, List.length_append]
            rw [string_mk, HX.out] at own6
            exact own6
          case measure => simp [intOf]
        · have hlt : i < s.size := by omega
          have hne : ((i : Int) == (s.size : Int)) = false := by rw [beq_eq_false_iff_ne]; omega
          obtain ⟨c, hc⟩ : ∃ c, s[i]'hlt = c := ⟨_, rfl⟩
          have hbi : l[i]? = some c := by rw [HL.out, at_byte s i hlt, hc]
          by_cases hc47 : c = 47
          · subst hc47
            have HX := Lib.hid (show (s.extract fr i).data.toList = (l.drop fr).take (i - fr) by rw [Lib.extract_data, ← HL.out])
            have HCN := Lib.hid (HC.out.cut hbi)
            have HRA := Lib.hid (HR.out.alloc (.cells #[.string (s.extract fr i)] 9))
            have HSX := Lib.hid (src9 wr (s.extract fr i))
            have HSZ := Lib.hid (show w.heap.size ≤ (wr.alloc (.cells #[.string (s.extract fr i)] 9)).heap.size by simp; omega)
            clear hbi
            go_wp2_with (at_builtin; refine wpList_append_at rfl (.tmp 34) (.tmp 39) 39 rfl w.heap.size 9 i0 _ 1 16 Tryd.underlying39 HI.out HZZ.out hz1 hz2 rfl (by decide) _ _ _ rfl HRA.out _ _ _ _ rfl HSX.out (by unfold maxLen; omega) (by omega) HSZ.out ?_; intro v6 w6 own6 g6 at6; obtain ⟨ad6, c6, rfl, hc6⟩ := own_shape own6)
            go_roundw
            case rel =>
              refine ⟨i + 1, i + 1, _, by omega, by go_num, by go_num, HCN.out, ?_, (HB.out.alloc HB.out.size _).grown g6 HSZ.out (own_ge HRA.out)⟩
              rw [scells_snoc, List.length_append]
              rw [string_mk, HX.out] at own6
              exact own6
            case measure => simp [intOf]; omega
          · have HCN := Lib.hid (HC.out.on c hbi hc47)
            have hcn : ((c.toNat : Int) == 47) = false := by
              rw [beq_eq_false_iff_ne]; intro e; apply hc47
              have : c.toNat = 47 := by omega
              rw [← UInt8.toNat_inj]; exact this
            clear hbi hc47
            go_wp2_with fail
            go_roundw
            case rel => exact ⟨i + 1, fr, out, by omega, by go_num, rfl, HCN.out, HR.out, HB.out⟩
            case measure => simp [intOf]; omega
      · obtain rfl : i = s.size + 1 := by omega
        have ec : ((s.size + 1 : Nat) : Int) = (s.size : Int) + 1 := by omega
        rw [ec]
        clear ec
        have hout := HC.out.fin (by rw [HLEN.out]; omega)
        rw [← hout] at HN
        have HS := Lib.hid (strs_own HR.out)
        have hol : out.length ≤ 4194305 := by omega
        have hlp : ∀ x ∈ out, x.length ≤ 4194304 := fun x hx => by
          rw [hout] at hx
          have h1 := splitS_parts _ x hx
          have h2 : (l.drop 1).length ≤ l.length := by simp
          rw [HLEN.out] at h2
          omega
        have HLP := Lib.hid hlp
        have HNE := Lib.hid (show out ≠ [] by rw [hout]; exact splitS_ne _)
        clear hout hlp hi1 hf1 hf2 hmany
        go_wp2_with fail
        go_loop [7] (fun i => ∃ k : Nat, k ≤ out.length ∧ i = .int .i64 k ∧ (out.take k).all nameB = true) (fun i => out.length - (intOf i).toNat)
        case atStart => exact ⟨0, Nat.zero_le _, rfl, rfl⟩
        case round =>
          obtain ⟨k, hk, rfl, hall⟩ := hrel
          have HA := Lib.hid hall
          clear hall
          by_cases hlt : k < out.length
          · obtain ⟨x, hx⟩ : ∃ x, out[k]? = some x := ⟨_, List.getElem?_eq_getElem hlt⟩
            obtain ⟨g, off, rfl, hgl, d0⟩ := HS.out.get k x hx
            have hxl := HLP.out x (List.mem_of_getElem? hx)
            have C3 := fun w1 => rname_any ⟨x.toArray⟩ w1 (by show x.toArray.size ≤ _; rw [List.size_toArray]; omega)
            rw [show (⟨x.toArray⟩ : ByteArray).data.toList = x from rfl] at C3
            have HX := Lib.hid hx
            clear hx
            cases hz : nameB x
            · rw [hz] at C3
              have C3 := Lib.hid C3
              have HZ := Lib.hid (show namesO s.data.toList = none by
                rw [HN.out, if_neg]
                intro h
                have := List.all_eq_true.1 h.2 x (List.mem_of_getElem? HX.out); rw [hz] at this; cases this)
              clear hz
              go_wp2_with fail
              refine (C3.out _).mono ?_
              rintro e w3 ⟨rfl, rfl⟩
              go_wp2_with fail
              exact ret_two rfl rfl rfl rfl (RNamed.no HZ.out HB.out)
            · rw [hz] at C3
              have C3 := Lib.hid C3
              have HZ := Lib.hid hz
              clear hz
              go_wp2_with fail
              refine (C3.out _).mono ?_
              rintro e w3 ⟨rfl, rfl⟩
              go_wp2_with fail
              go_round
              case rel => exact ⟨k + 1, by omega, by go_num, by rw [List.take_add_one, HX.out, List.all_append, HA.out]; simp [HZ.out]⟩
              case measure => simp [intOf]; omega
          · obtain rfl : k = out.length := by omega
            rw [List.take_length] at HA
            by_cases h8 : out.length ≤ 8
            · have HZ := Lib.hid (show namesO s.data.toList = some out by rw [HN.out, if_pos ⟨h8, HA.out⟩])
              have h8' : decide (out.length ≤ 8) = true := by simpa using h8
              have h8i : decide ((out.length : Int) ≤ 8) = true := by rw [decide_eq_true_eq]; omega
              go_wp2_with fail
              exact ret_two rfl rfl rfl rfl (RNamed.yes HZ.out rfl HLC.out HS.out (fun h => absurd h HNE.out) HB.out)
            · have HZ := Lib.hid (show namesO s.data.toList = none by rw [HN.out, if_neg (fun h => h8 h.1)])
              have h8' : decide (out.length ≤ 8) = false := by simpa using h8
              have h8i : decide ((out.length : Int) ≤ 8) = false := by rw [decide_eq_false_iff_not]; omega
              go_wp2_with fail
              exact ret_two rfl rfl rfl rfl (RNamed.no HZ.out HB.out)
theorem rnames_no (s : ByteArray) (w : World) (hs : s.size ≤ 4194304) (h : validZ s.data.toList = false) :
    Calls Tryd.prog 26 #[.string s] w fun e w' => ∃ ad n c, e = .returned (.tuple #[.slice ad n c, .bool false]) ∧ Below w.heap.size w w' := by
  refine (rnames_any s w hs).mono ?_
  rintro e w' ⟨⟨ad, n, c, rfl, _⟩, hb⟩
  exact ⟨ad, n, c, by rw [h], hb⟩
theorem rnames_yes (s : ByteArray) (w : World) (hs : s.size ≤ 4194304) (L : List Nm) (h : namesO s.data.toList = some L) :
    Calls Tryd.prog 26 #[.string s] w fun e w' => ∃ ad c, e = .returned (.tuple #[.slice ad L.length c, .bool true]) ∧ L.length ≤ c ∧ Strs w' ad L ∧ (L = [] → ad = none ∧ c = 0) ∧ Below w.heap.size w w' := by
  refine (rnames_any s w hs).mono ?_
  rintro e w' ⟨⟨ad, n, c, rfl, h2⟩, hb⟩
  have hv : validZ s.data.toList = true := by unfold validZ; rw [h]; rfl
  obtain ⟨rfl, hc, hS, h0⟩ := h2 hv
  rw [ls_of h] at hc hS h0
  exact ⟨ad, c, by rw [hv, ls_of h], hc, hS, h0, hb⟩
end Go.Proofs.YtbkjhogfpcmcbaaDoor
