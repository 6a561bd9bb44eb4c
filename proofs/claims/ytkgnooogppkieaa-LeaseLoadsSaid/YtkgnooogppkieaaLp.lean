/- The document's leases: Get. Conditions: the row's cells are seen. -/
import Derived.Test.YtkgnooogppkieaaLo
namespace Go.Proofs.Ytkgnooogppkieaa
open Go.RowKit
set_option linter.unusedVariables false
set_option linter.unusedSimpArgs false
variable {w w' : World} {base : Nat} {L : List Lz}

theorem ret_box46 {fn : Func} {R : Ending → World → Prop} {a : Act} {w : World} {t u : Nat} {b : Nat} {x y z q : Value} (h : fn.results = #[.cell t 46, .tmp u]) (hd : a.defers = []) (ht : a.tmps.getD t undef = .pointer (some ⟨b, 0, none⟩)) (hu : a.tmps.getD u undef = q)
    (hb : Box w b 46 #[x, y, z]) (hR : R (.returned (.tuple #[.agg #[x, y, z], q])) w) : bodyPost Try.prog fn R .ret a w := by
  have c0 : w.cell? ⟨b, 0, none⟩ = some x := hb.cell 0
  have c1 : w.cell? ⟨b, 1, none⟩ = some y := hb.cell 1
  have c2 : w.cell? ⟨b, 2, none⟩ = some z := hb.cell 2
  refine bodyPost_ret (v := .tuple #[.agg #[x, y, z], q]) ?_ hd hR
  rw [Array.getD_eq_getD_getElem?] at ht hu
  simp [results, h, ht, hu, go_sem, c0, c1, c2]
/-- leases that are read off a row; bad: blocks where the row does not lie. -/
def Sees (w : World) (bad : Nat → Prop) (ad : Option Addr) (L : List Lz) : Prop :=
  L = [] ∨ ∃ g off, ad = some ⟨g, off, none⟩ ∧ g < w.heap.size ∧ ¬ bad g ∧ ∀ k p, L[k]? = some p → w.cell? ⟨g, off + k * 3, none⟩ = some (.int .i64 p.1) ∧ w.cell? ⟨g, off + k * 3 + 1, none⟩ = some (.int .i64 p.2.1) ∧ w.cell? ⟨g, off + k * 3 + 2, none⟩ = some (.int .i64 p.2.2)
theorem Sees.get {bad : Nat → Prop} {ad : Option Addr} (h : Sees w bad ad L) (k : Nat) (p : Lz) (hk : L[k]? = some p) :
    ∃ g off, ad = some ⟨g, off, none⟩ ∧ g < w.heap.size ∧ ¬ bad g ∧ w.cell? ⟨g, off + k * 3, none⟩ = some (.int .i64 p.1) ∧ w.cell? ⟨g, off + k * 3 + 1, none⟩ = some (.int .i64 p.2.1) ∧ w.cell? ⟨g, off + k * 3 + 2, none⟩ = some (.int .i64 p.2.2) := by
  rcases h with rfl | ⟨g, off, rfl, h1, h2, h3⟩
  · simp at hk
  · exact ⟨g, off, rfl, h1, h2, h3 k p hk⟩
theorem Sees.stays {bad : Nat → Prop} {ad : Option Addr} (h : Sees w bad ad L) (hk : ∀ k, k < w.heap.size → ¬ bad k → w'.heap[k]? = w.heap[k]?) (hs : w.heap.size ≤ w'.heap.size) : Sees w' bad ad L := by
  refine h.imp id ?_
  rintro ⟨g, off, rfl, h1, h2, h3⟩
  have e : ∀ j, w'.cell? ⟨g, j, none⟩ = w.cell? ⟨g, j, none⟩ := fun j => World.cell?_of_block (a := ⟨g, j, none⟩) (hk g h1 h2)
  exact ⟨g, off, rfl, Nat.lt_of_lt_of_le h1 hs, h2, fun k p hp => by rw [e, e, e]; exact h3 k p hp⟩
theorem Sees.below {bad : Nat → Prop} {ad : Option Addr} (h : Sees w bad ad L) (hb : Below w.heap.size w w') : Sees w' bad ad L := h.stays (fun k hk _ => hb.block k hk) hb.size
theorem Sees.mono {bad bad' : Nat → Prop} {ad : Option Addr} (h : Sees w bad ad L) (hb : ∀ k, k < w.heap.size → bad' k → bad k) : Sees w bad' ad L := by
  refine h.imp id ?_
  rintro ⟨g, off, rfl, h1, h2, h3⟩
  exact ⟨g, off, rfl, h1, fun h => h2 (hb g h1 h), h3⟩
theorem Sees.of_own {bad : Nat → Prop} {e : TypeId} {ad : Option Addr} {c : Nat} (h : w.ownsRow base e 3 (.slice ad L.length c) L.length (cellsOf L)) (hb : ∀ k, base ≤ k → k < w.heap.size → ¬ bad k) : Sees w bad ad L := by
  cases L with
  | nil => exact .inl rfl
  | cons q L =>
    obtain ⟨g, cap, he, hg, _⟩ := own_cells h 0 q rfl
    obtain ⟨rfl, rfl⟩ : ad = some ⟨g, 0, none⟩ ∧ c = cap := by simpa using he
    refine .inr ⟨g, 0, rfl, hg, hb g (own_ge h g rfl) hg, fun k p hp => ?_⟩
    obtain ⟨g', cap', he', _, d0, d1, d2⟩ := own_cells h k p hp
    obtain ⟨rfl, rfl⟩ : g = g' ∧ c = cap' := by simpa using he'
    simp only [Nat.zero_add]
    exact ⟨d0, d1, d2⟩
def findL (L : List Lz) (id : Int) : Option Lz := L.find? (fun p => p.1 == id)
theorem find_isIn (L : List Lz) (id : Int) : (findL L id).isSome = isIn L id := by
  unfold findL isIn
  induction L with
  | nil => rfl
  | cons q L ih => rw [List.find?_cons, List.any_cons]; cases q.1 == id <;> simp [ih]
set_option maxHeartbeats 1000000 in
theorem rget_any {bad : Nat → Prop} (ad : Option Addr) (c : Nat) (id : Int) (h : Sees w bad ad L) (hl : L.length ≤ 1000) :
    Calls Try.prog 21 #[.slice ad L.length c, .int .i64 id] w fun e w' => e = .returned (.tuple #[tv ((findL L id).getD zl), .bool (isIn L id)]) ∧ Below w.heap.size w w' := by
  have HO := Lib.hid h
  have HX := Lib.hid (Box.new w 46 #[.int .i64 0, .int .i64 0, .int .i64 0])
  have B0 := Lib.hid ((Below.refl w.heap.size w).alloc (Nat.le_refl _) (.cells #[.int .i64 0, .int .i64 0, .int .i64 0] 46))
  unfold tv
  clear h
  go_enter Try.func21, Try.ntmps21
  go_wp2
  generalize w.alloc (.cells #[.int .i64 0, .int .i64 0, .int .i64 0] 46) = w1 at HX B0 ⊢
  go_loopw [6] (fun i wr => ∃ k : Nat, k ≤ L.length ∧ i = .int .i64 k ∧ (∀ j p, j < k → L[j]? = some p → (p.1 == id) = false) ∧ wr = w1) (fun i _ => L.length - (intOf i).toNat)
  case atStart => exact ⟨0, Nat.zero_le _, rfl, fun j p hj => by omega, rfl⟩
  case round =>
    obtain ⟨k, hk, rfl, hno, rfl⟩ := hrel
    have HNO := Lib.hid hno
    have z0 : wr.cell? ⟨w.heap.size, 0, none⟩ = some (.int .i64 0) := HX.out.cell 0
    have z1 : wr.cell? ⟨w.heap.size, 1, none⟩ = some (.int .i64 0) := HX.out.cell 1
    have z2 : wr.cell? ⟨w.heap.size, 2, none⟩ = some (.int .i64 0) := HX.out.cell 2
    have f0 := HX.out.frozen 0
    have f1 := HX.out.frozen 1
    have f2 := HX.out.frozen 2
    have hw := HX.out.lt
    clear hno
    by_cases hlt : k < L.length
    · obtain ⟨p, hp⟩ : ∃ p, L[k]? = some p := ⟨_, List.getElem?_eq_getElem hlt⟩
      obtain ⟨g, off, rfl, hg, _, d0, d1, d2⟩ := (HO.out.below B0.out).get k p hp
      have HP := Lib.hid hp
      clear hp
      cases hq : (p.1 == id)
      · go_wp2
        go_roundw
        case rel => exact ⟨k + 1, by omega, by go_num, fun j r hj hr => by
          rcases Nat.lt_or_ge j k with h | h
          · exact HNO.out j r h hr
          · obtain rfl : j = k := by omega
            rw [HP.out] at hr; obtain rfl := Option.some.inj hr; exact hq, trivial⟩
        case measure => simp [intOf]; omega
      · have hf : findL L id = some p := by
          unfold findL
          rw [List.find?_eq_some_iff_getElem]
          have hkl := List.getElem?_eq_some_iff.1 HP.out
          exact ⟨hq, k, hkl.1, hkl.2, fun j hj => by have := HNO.out j _ hj (List.getElem?_eq_getElem (by omega)); simp [this]⟩
        have hi : isIn L id = true := by rw [← find_isIn, hf]; rfl
        have HF := Lib.hid hf
        have HI := Lib.hid hi
        clear hf hi
        go_wp2
        exact ret_box46 Try.results21 rfl rfl rfl (((HX.out.set 0 _).set 1 _).set 2 _) ⟨by rw [HF.out, HI.out]; rfl, ((B0.out.setCell (Nat.le_refl _) _).setCell (Nat.le_refl _) _).setCell (Nat.le_refl _) _⟩
    · have hf : findL L id = none := by
        unfold findL
        rw [List.find?_eq_none]
        intro p hp
        obtain ⟨j, hj, he⟩ := List.getElem_of_mem hp
        have := HNO.out j p (by omega) (by rw [List.getElem?_eq_getElem hj, he])
        simp [this]
      have hi : isIn L id = false := by rw [← find_isIn, hf]; rfl
      have HF := Lib.hid hf
      have HI := Lib.hid hi
      clear hf hi
      go_wp2
      exact ret_box46 Try.results21 rfl rfl rfl (((HX.out.set 0 _).set 1 _).set 2 _) ⟨by rw [HF.out, HI.out]; rfl, ((B0.out.setCell (Nat.le_refl _) _).setCell (Nat.le_refl _) _).setCell (Nat.le_refl _) _⟩
end Go.Proofs.Ytkgnooogppkieaa
