/- chart: mounts that lie in memory; the map's check. Conditions: as in each statement. -/
import Derived.Test.YtbkjhogfpcmcbaaDoorKb
import Derived.Test.YtbkjhogfpcmcbaaDoorOpenS
import Derived.Test.YtbkjhogfpcmcbaaDoorTouch
import Derived.Test.YtbkjhogfpcmcbaaDoorQB
import Derived.Deep.QuietTactic
import Derived.BigQuiet
import Derived.WideShapes
import Derived.WalkLawsBesides
namespace Go.Proofs.YtbkjhogfpcmcbaaDoor
open Go Go.RowKit Zn
set_option linter.unusedVariables false
set_option linter.unusedSimpArgs false
variable {w w' : World}
structure Mt where
  p : ByteArray
  v : Int
def mc (x : Mt) : List Value := [.string x.p, .int .i64 x.v]
/-- mounts that lie in memory. -/
def MsAt (w : World) (a : Option Addr) (len : Nat) (ms : List Mt) : Prop := RowsAt w 2 a len (ms.map mc)
theorem MsAt.len {a : Option Addr} {len : Nat} {ms : List Mt} (h : MsAt w a len ms) : ms.length = len := by have := h.1; rwa [List.length_map] at this
theorem MsAt.below {a : Option Addr} {len B : Nat} {ms : List Mt} (h : MsAt w a len ms) (hb : Below B w w') (hB : w.heap.size ≤ B) : MsAt w' a len ms := RowsAt.below h hb hB
theorem MsAt.get {a : Option Addr} {len : Nat} {ms : List Mt} (h : MsAt w a len ms) (k : Nat) (hk : k < len) : ∃ b off x, a = some ⟨b, off, none⟩ ∧ ms[k]? = some x ∧ b < w.heap.size ∧ w.cell? ⟨b, off + k * 2, none⟩ = some (.string x.p) ∧ w.cell? ⟨b, off + k * 2 + 1, none⟩ = some (.int .i64 x.v) := by
  have hl := h.len
  obtain ⟨h1, h2⟩ := h
  obtain ⟨b, off, rfl, hb, hc⟩ := h2.resolve_left (by omega)
  have hp : ms[k]? = some (ms[k]'(by omega)) := List.getElem?_eq_getElem (by omega)
  have hr : (ms.map mc)[k]? = some (mc (ms[k]'(by omega))) := by rw [List.getElem?_map, hp]; rfl
  exact ⟨b, off, _, rfl, hp, hb, hc k _ hr 0 _ rfl, hc k _ hr 1 _ rfl⟩
def badB (x : Mt) : Bool := !validZ x.p.data.toList || decide (x.v < 1) || decide (999 < x.v)
theorem bad_any (x : Mt) (w : World) (hs : x.p.size ≤ 4194304) (hm : Mx w) : Calls Tryd.prog 43 #[.agg #[.string x.p, .int .i64 x.v]] w fun e w' => e = .returned (.bool (badB x)) ∧ Below w.heap.size w w' := by
  have hb : Below w.heap.size w (w.alloc (.cells #[.string x.p, .int .i64 x.v] 53)) := (Below.refl _ _).alloc (Nat.le_refl _) _
  have C := valid_any x.p (w.alloc (.cells #[.string x.p, .int .i64 x.v] 53)) hs (hm.below hb)
  have HBX := Lib.hid (Box.new w 53 #[.string x.p, .int .i64 x.v])
  have HB := Lib.hid hb
  cases hv : validZ x.p.data.toList with
  | false =>
    rw [hv] at C
    have C := Lib.hid C
    have HE := Lib.hid (show badB x = true by unfold badB; rw [hv]; rfl)
    clear hb hm hv
    go_enter Tryd.func43, Tryd.ntmps43
    go_wp2_with fail
    refine C.out.mono ?_
    rintro e w1 ⟨rfl, b1⟩
    have HB1 := Lib.hid (HB.out.trans (b1.mono HB.out.size))
    clear b1 C
    go_wp2_with fail
    go_ret
    exact ⟨by rw [HE.out]; rfl, HB1.out⟩
  | true =>
    rw [hv] at C
    have C := Lib.hid C
    have HV := Lib.hid hv
    clear hb hm hv
    go_enter Tryd.func43, Tryd.ntmps43
    go_wp2_with fail
    refine C.out.mono ?_
    rintro e w1 ⟨rfl, b1⟩
    have HB1 := Lib.hid (HB.out.trans (b1.mono HB.out.size))
    have hbx : Box w1 w.heap.size 53 #[.string x.p, .int .i64 x.v] := (b1.block w.heap.size (by simp)).trans HBX.out
    have c1 : w1.cell? ⟨w.heap.size, 1, none⟩ = some (.int .i64 x.v) := hbx.cell 1
    have hl := hbx.lt
    clear b1 C hbx
    have HE := Lib.hid (show badB x = (decide (x.v < 1) || decide (999 < x.v)) by unfold badB; rw [HV.out]; rfl)
    by_cases h1 : x.v < 1
    · have HE := Lib.hid (show badB x = true by rw [HE.out, decide_eq_true h1]; rfl)
      go_wp2_with fail
      go_ret
      exact ⟨by rw [HE.out]; rfl, HB1.out⟩
    · go_wp2_with fail
      go_ret
      exact ⟨by rw [HE.out]; rfl, HB1.out⟩
def anyBad (ms : List Mt) : Bool := ms.any badB
def IdxPost (w : World) (ms : List Mt) (e : Ending) (w' : World) : Prop := ∃ n : Int, e = .returned (.int .i64 n) ∧ decide (0 ≤ n) = anyBad ms ∧ Below w.heap.size w w'
theorem anyBad_snoc {ms : List Mt} {k : Nat} {x : Mt} (h : ms[k]? = some x) : anyBad (ms.take (k + 1)) = (anyBad (ms.take k) || badB x) := by
  unfold anyBad
  rw [List.take_add_one, h, List.any_append]
  simp
theorem anyBad_at {ms : List Mt} {k : Nat} {x : Mt} (h : ms[k]? = some x) (hb : badB x = true) : anyBad ms = true := by
  unfold anyBad
  rw [List.any_eq_true]
  exact ⟨x, List.mem_of_getElem? h, hb⟩
set_option maxHeartbeats 1000000 in
theorem idx_any (a : Option Addr) (len cap : Nat) (ms : List Mt) (h : MsAt w a len ms) (hs : ∀ x ∈ ms, x.p.size ≤ 4194304) (hm : Mx w) (hl : len ≤ 1000000) :
    Calls Tryd.prog 67 #[.slice a len cap, .func (.func 43) #[] #[]] w (IdxPost w ms) := by
  have H := Lib.hid h
  have HS := Lib.hid hs
  have HM := Lib.hid hm
  have HL := Lib.hid h.len
  clear h hs hm
  go_enter Tryd.func67, Tryd.ntmps67
  go_wp2_with fail
  go_loopw [8] (fun i wr => ∃ k : Nat, k ≤ len ∧ i = .int .i64 k ∧ anyBad (ms.take k) = false ∧ Below w.heap.size w wr) (fun i _ => len - (intOf i).toNat)
  case atStart => exact ⟨0, Nat.zero_le _, rfl, rfl, Below.refl _ _⟩
  case round =>
    obtain ⟨k, hk, rfl, hnb, hb⟩ := hrel
    have HNB := Lib.hid hnb
    have HB := Lib.hid hb
    clear hnb
    by_cases hlt : k < len
    · obtain ⟨b, off, x, rfl, hp, hbl, c0, c1⟩ := H.out.get k hlt
      have c0 := (hb.cell (p := ⟨b, off + k * 2, none⟩) hbl).trans c0
      have c1 := (hb.cell (p := ⟨b, off + k * 2 + 1, none⟩) hbl).trans c1
      have hbl2 : b < wr.heap.size := Nat.lt_of_lt_of_le hbl hb.size
      have C := bad_any x wr (HS.out x (List.mem_of_getElem? hp)) (HM.out.below hb)
      have HN := anyBad_snoc hp
      have HA := Lib.hid (fun e => anyBad_at hp e)
      rw [HNB.out, Bool.false_or] at HN
      cases hbd : badB x with
      | true =>
        rw [hbd] at C
        have C := Lib.hid C
        have HE := Lib.hid (HA.out hbd)
        clear hp hb hbd HN HA hbl
        go_wp2_with fail
        refine C.out.mono ?_
        rintro e w5 ⟨rfl, b5⟩
        have HB5 := Lib.hid (HB.out.trans (b5.mono HB.out.size))
        clear b5 C
        go_wp2_with fail
        go_ret
        exact ⟨(k : Int), rfl, by rw [HE.out]; simp, HB5.out⟩
      | false =>
        rw [hbd] at C HN
        have C := Lib.hid C
        have HN := Lib.hid HN
        clear hp hb hbd HA hbl
        go_wp2_with fail
        refine C.out.mono ?_
        rintro e w5 ⟨rfl, b5⟩
        have HB5 := Lib.hid (HB.out.trans (b5.mono HB.out.size))
        clear b5 C
        go_wp2_with fail
        go_roundw
        case rel => exact ⟨k + 1, by omega, by go_num, HN.out, HB5.out⟩
        case measure => simp [intOf]; omega
    · obtain rfl : k = len := by omega
      have HE := Lib.hid (show anyBad ms = false by have := HNB.out; rwa [List.take_of_length_le (by rw [HL.out]; exact Nat.le_refl _)] at this)
      go_wp2_with fail
      go_ret
      exact ⟨-1, rfl, by rw [HE.out]; rfl, HB.out⟩
theorem contains_any (a : Option Addr) (len cap : Nat) (ms : List Mt) (h : MsAt w a len ms) (hs : ∀ x ∈ ms, x.p.size ≤ 4194304) (hm : Mx w) (hl : len ≤ 1000000) :
    Calls Tryd.prog 45 #[.slice a len cap, .func (.func 43) #[] #[]] w fun e w' => e = .returned (.bool (anyBad ms)) ∧ Below w.heap.size w w' := by
  have C := Lib.hid (idx_any a len cap ms h hs hm hl)
  clear h hs hm
  go_enter Tryd.func45, Tryd.ntmps45
  go_wp2_with fail
  refine C.out.mono ?_
  rintro e w1 ⟨n, rfl, hn, b1⟩
  have HB := Lib.hid b1
  have HN := Lib.hid hn
  clear b1 hn C
  go_wp2_with fail
  go_ret
  exact ⟨by rw [← HN.out]; rfl, HB.out⟩
/-- the first path is the root. -/
def rootB (ms : List Mt) : Bool := match ms with | [] => false | x :: _ => decide (x.p = ⟨#[47]⟩)
theorem ba_eq (x y : ByteArray) {i : BEq (List UInt8)} [@LawfulBEq _ i] : @BEq.beq _ i x.toList y.toList = decide (x = y) := by
  rw [Bool.eq_iff_iff, beq_iff_eq, decide_eq_true_iff]
  constructor
  · intro h
    rw [ByteArray.toList_eq, ByteArray.toList_eq] at h
    exact Go.WideShapes.bytes_inj h
  · rintro rfl; rfl
/-- one text is not behind another one. -/
def leB (x y : ByteArray) : Bool := Op.bytesLess x.toList y.toList || decide (x = y)
/-- the paths rise. -/
def riseB : List Mt → Bool
  | x :: y :: l => !leB y.p x.p && riseB (y :: l)
  | _ => true
theorem rise_snoc : ∀ (l : List Mt) (x y : Mt), riseB (l ++ [x] ++ [y]) = (riseB (l ++ [x]) && !leB y.p x.p) := by
  intro l
  induction l with
  | nil => intro x y; simp [riseB]
  | cons z l ih =>
    intro x y
    cases l with
    | nil => simp [riseB, Bool.and_assoc]
    | cons u l =>
      have := ih x y
      simp only [List.cons_append] at this ⊢
      simp only [riseB]
      rw [this, Bool.and_assoc]
theorem rise_take {ms : List Mt} {k : Nat} {x y : Mt} (hx : ms[k]? = some x) (hy : ms[k + 1]? = some y) : riseB (ms.take (k + 2)) = (riseB (ms.take (k + 1)) && !leB y.p x.p) := by
  rw [List.take_add_one, hy, List.take_add_one, hx]
  exact rise_snoc _ _ _
theorem rise_false : ∀ (l r : List Mt), riseB l = false → riseB (l ++ r) = false := by
  intro l
  induction l with
  | nil => intro r h; cases h
  | cons x l ih =>
    intro r h
    cases l with
    | nil => cases h
    | cons y l =>
      simp only [List.cons_append, riseB, Bool.and_eq_false_iff] at h ⊢
      exact h.imp id (ih r)
theorem rise_no {ms : List Mt} {k : Nat} (h : riseB (ms.take k) = false) : riseB ms = false := by
  have := rise_false _ (ms.drop k) h
  rwa [List.take_append_drop] at this
theorem root_at {ms : List Mt} {x : Mt} (h : ms[0]? = some x) : rootB ms = decide (x.p = ⟨#[47]⟩) := by
  cases ms with
  | nil => cases h
  | cons y l => simp at h; subst h; rfl
def checkB (ms : List Mt) : Bool := decide (1 ≤ ms.length) && decide (ms.length ≤ 40) && rootB ms && !anyBad ms && riseB ms
def checkE (ms : List Mt) : Int := if checkB ms then 0 else 200
theorem check_empty (a : Option Addr) (len cap : Nat) (ms : List Mt) (h : MsAt w a len ms) (hs : ∀ x ∈ ms, x.p.size ≤ 4194304) (hm : Mx w) (hl : len ≤ 1000000) (h0 : len = 0) :
    Calls Tryd.prog 17 #[.slice a len cap] w fun e w' => e = .returned (.int .i64 200) ∧ Below w.heap.size w w' := by
  have q0 : ((len : Int) == 0) = true := by simp; omega
  subst h0
  clear h hs hm
  go_enter Tryd.func17, Tryd.ntmps17
  go_wp2_with fail
  go_ret
  exact ⟨rfl, Below.refl _ _⟩
theorem check_many (a : Option Addr) (len cap : Nat) (ms : List Mt) (h : MsAt w a len ms) (hs : ∀ x ∈ ms, x.p.size ≤ 4194304) (hm : Mx w) (hl : len ≤ 1000000) (h40 : 40 < len) :
    Calls Tryd.prog 17 #[.slice a len cap] w fun e w' => e = .returned (.int .i64 200) ∧ Below w.heap.size w w' := by
  have q0 : ((len : Int) == 0) = false := by simp; omega
  have q1 : decide ((40 : Int) < (len : Int)) = true := by simp; omega
  clear h hs hm
  go_enter Tryd.func17, Tryd.ntmps17
  go_wp2_with fail
  go_ret
  exact ⟨rfl, Below.refl _ _⟩
set_option maxHeartbeats 1000000 in
theorem check_root (a : Option Addr) (len cap : Nat) (ms : List Mt) (h : MsAt w a len ms) (hs : ∀ x ∈ ms, x.p.size ≤ 4194304) (hm : Mx w) (hl : len ≤ 1000000) (h0 : 0 < len) (h40 : len ≤ 40) (hr : rootB ms = false) :
    Calls Tryd.prog 17 #[.slice a len cap] w fun e w' => e = .returned (.int .i64 200) ∧ Below w.heap.size w w' := by
  obtain ⟨b, off, x, rfl, hp, hbl, c0, c1⟩ := h.get 0 h0
  have hx : ¬ x.p = ⟨#[47]⟩ := by rw [root_at hp] at hr; simpa using hr
  have hx2 : (x.p.toList == (⟨#[47]⟩ : ByteArray).toList) = false := by rw [ba_eq]; simpa using hx
  have hx3 : (x.p.toList == [47]) = false := by
    rw [show ([47] : List UInt8) = (⟨#[47]⟩ : ByteArray).toList from by rw [ByteArray.toList_eq]]
    exact hx2
  simp only [Nat.zero_mul, Nat.add_zero] at c0
  have q0 : ((len : Int) == 0) = false := by simp; omega
  have q1 : decide ((40 : Int) < (len : Int)) = false := by simp; omega
  clear h hs hm hr hp c1 hx
  go_enter Tryd.func17, Tryd.ntmps17
  go_wp2_with fail
  go_ret
  exact ⟨rfl, Below.refl _ _⟩
set_option maxHeartbeats 1000000 in
theorem check_bad (a : Option Addr) (len cap : Nat) (ms : List Mt) (h : MsAt w a len ms) (hs : ∀ x ∈ ms, x.p.size ≤ 4194304) (hm : Mx w) (hl : len ≤ 1000000) (h0 : 0 < len) (h40 : len ≤ 40) (hr : rootB ms = true) (hnb : anyBad ms = true) :
    Calls Tryd.prog 17 #[.slice a len cap] w fun e w' => e = .returned (.int .i64 200) ∧ Below w.heap.size w w' := by
  have C := contains_any a len cap ms h hs hm hl
  rw [hnb] at C
  have C := Lib.hid C
  obtain ⟨b, off, x, rfl, hp, hbl, c0, c1⟩ := h.get 0 h0
  have hx : x.p = ⟨#[47]⟩ := by rw [root_at hp] at hr; simpa using hr
  simp only [Nat.zero_mul, Nat.add_zero] at c0
  rw [hx] at c0
  have q0 : ((len : Int) == 0) = false := by simp; omega
  have q1 : decide ((40 : Int) < (len : Int)) = false := by simp; omega
  clear h hs hm hnb hr hp c1 hx
  go_enter Tryd.func17, Tryd.ntmps17
  go_wp2_with fail
  refine C.out.mono ?_
  rintro e w1 ⟨rfl, b1⟩
  have HB1 := Lib.hid b1
  clear b1 C
  go_wp2_with fail
  go_ret
  exact ⟨rfl, HB1.out⟩
set_option maxHeartbeats 2000000 in
theorem check_rise (a : Option Addr) (len cap : Nat) (ms : List Mt) (h : MsAt w a len ms) (hs : ∀ x ∈ ms, x.p.size ≤ 4194304) (hm : Mx w) (hl : len ≤ 1000000) (h0 : 0 < len) (h40 : len ≤ 40) (hr : rootB ms = true) (hnb : anyBad ms = false) :
    Calls Tryd.prog 17 #[.slice a len cap] w fun e w' => e = .returned (.int .i64 (if riseB ms then 0 else 200)) ∧ Below w.heap.size w w' := by
  have C := contains_any a len cap ms h hs hm hl
  rw [hnb] at C
  have C := Lib.hid C
  have H := Lib.hid h
  have HL := Lib.hid h.len
  obtain ⟨b, off, x, rfl, hp, hbl, c0, c1⟩ := h.get 0 h0
  have hx : x.p = ⟨#[47]⟩ := by rw [root_at hp] at hr; simpa using hr
  simp only [Nat.zero_mul, Nat.add_zero] at c0
  rw [hx] at c0
  have q0 : ((len : Int) == 0) = false := by simp; omega
  have q1 : decide ((40 : Int) < (len : Int)) = false := by simp; omega
  have HR1 := Lib.hid (show riseB (ms.take 1) = true by
    cases ms with
    | nil => rfl
    | cons y l => rfl)
  obtain ⟨R, hR⟩ : ∃ R : Int, R = if riseB ms then 0 else 200 := ⟨_, rfl⟩
  rw [← hR]
  have HR := Lib.hid hR
  clear h hs hm hnb hr hp c1 hx hR
  go_enter Tryd.func17, Tryd.ntmps17
  go_wp2_with fail
  refine C.out.mono ?_
  rintro e w1 ⟨rfl, b1⟩
  have HB1 := Lib.hid b1
  clear b1 C
  go_wp2_with fail
  go_loopw [4] (fun i wr => ∃ k : Nat, k + 1 ≤ len ∧ i = .int .i64 ((k : Int) + 1) ∧ riseB (ms.take (k + 1)) = true ∧ Below w.heap.size w wr) (fun i _ => len - (intOf i).toNat)
  case atStart => exact ⟨0, by omega, rfl, HR1.out, HB1.out⟩
  case round =>
    obtain ⟨k, hk, rfl, hrs, hb⟩ := hrel
    have HB := Lib.hid hb
    have HRS := Lib.hid hrs
    clear hrs
    by_cases hlt : k + 1 < len
    · obtain ⟨b', off', x', e1, hp, hbl', c0', _⟩ := H.out.get (k + 1) hlt
      obtain ⟨b'', off'', x'', e2, hp2, hbl2, c0'', _⟩ := H.out.get k (by omega)
      injection e1 with e1
      injection e1 with e11 e12
      injection e2 with e2
      injection e2 with e21 e22
      subst e11 e12 e21 e22
      have d0 := (hb.cell (p := ⟨b, off + (k + 1) * 2, none⟩) hbl').trans c0'
      have d1 := (hb.cell (p := ⟨b, off + k * 2, none⟩) hbl').trans c0''
      have hbw : b < wr.heap.size := Nat.lt_of_lt_of_le hbl' hb.size
      have HT := rise_take hp2 hp
      rw [HRS.out, Bool.true_and] at HT
      have hltI : (k : Int) + 1 < (len : Int) := by omega
      have hw1 : IntKind.i64.wrap ((k : Int) + 1 - 1) = (k : Int) := by rw [IntKind.wrap_i64]; omega
      have hkk : (k : Int) + 1 - 1 = (k : Int) := by omega
      have ht1 : ((k : Int) + 1).toNat = k + 1 := by omega
      cases hle : leB x'.p x''.p with
      | true =>
        have HE := Lib.hid (show R = 200 by
          rw [HR.out, if_neg]
          rw [rise_no (k := k + 2) (by rw [HT, hle]; rfl)]
          decide)
        cases hbs : Op.bytesLess x'.p.toList x''.p.toList with
        | true =>
          clear hp hp2 HT hle hb c0' c0'' hbl2
          go_upto_region 7 with (fail)
          go_quiet (fail)
          go_wp2_with fail
          go_ret
          exact ⟨by rw [HE.out]; rfl, Below.drewN HB.out nq⟩
        | false =>
          have heq : (x'.p.toList == x''.p.toList) = true := by
            rw [ba_eq]
            unfold leB at hle
            rw [hbs] at hle
            simpa using hle
          clear hp hp2 HT hle hb c0' c0'' hbl2
          go_upto_region 7 with (fail)
          go_quiet (fail)
          go_wp2_with fail
          go_ret
          exact ⟨by rw [HE.out]; rfl, Below.drewN HB.out nq⟩
      | false =>
        rw [hle] at HT
        have HT := Lib.hid HT
        have hbs : Op.bytesLess x'.p.toList x''.p.toList = false := by unfold leB at hle; simp at hle; exact hle.1
        have heq : (x'.p.toList == x''.p.toList) = false := by rw [ba_eq]; unfold leB at hle; simp at hle; simpa using hle.2
        clear hp hp2 hle hb c0' c0'' hbl2
        go_upto_region 7 with (fail)
        go_quiet (fail)
        go_wp2_with fail
        go_roundw
        case rel => exact ⟨k + 1, by omega, by go_num, HT.out, Below.drewN HB.out nq⟩
        case measure => simp [intOf]; omega
    · have hkl : k + 1 = len := by omega
      have hltI : ¬ (k : Int) + 1 < (len : Int) := by omega
      have HE := Lib.hid (show R = 0 by
        rw [HR.out, if_pos]
        have := HRS.out
        rwa [List.take_of_length_le (by rw [HL.out]; omega)] at this)
      clear hb
      go_wp2_with fail
      go_ret
      exact ⟨by rw [HE.out]; rfl, HB.out⟩
theorem check_any (a : Option Addr) (len cap : Nat) (ms : List Mt) (h : MsAt w a len ms) (hs : ∀ x ∈ ms, x.p.size ≤ 4194304) (hm : Mx w) (hl : len ≤ 1000000) :
    Calls Tryd.prog 17 #[.slice a len cap] w fun e w' => e = .returned (.int .i64 (checkE ms)) ∧ Below w.heap.size w w' := by
  have hlen := h.len
  unfold checkE checkB
  rw [hlen]
  by_cases h0 : len = 0
  · rw [decide_eq_false (by omega)]
    exact check_empty a len cap ms h hs hm hl h0
  by_cases h40 : 40 < len
  · rw [decide_eq_true (by omega), decide_eq_false (by omega)]
    exact check_many a len cap ms h hs hm hl h40
  rw [decide_eq_true (by omega), decide_eq_true (by omega)]
  cases hr : rootB ms with
  | false => exact check_root a len cap ms h hs hm hl (by omega) (by omega) hr
  | true =>
    cases hb : anyBad ms with
    | true => exact check_bad a len cap ms h hs hm hl (by omega) (by omega) hr hb
    | false =>
      have := check_rise a len cap ms h hs hm hl (by omega) (by omega) hr hb
      simpa using this
end Go.Proofs.YtbkjhogfpcmcbaaDoor
