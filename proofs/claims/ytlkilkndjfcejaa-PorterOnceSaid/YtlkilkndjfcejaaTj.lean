/- porter: a script that comes in; what stays true in it. Conditions: none. -/
import Derived.Test.YtlkilkndjfcejaaTi
namespace Go.Proofs.Ytlkilkndjfcejaa
open Go Go.RowKit Go.ChangeShapes Go.WideShapes Go.ChangeAt
set_option linter.unusedVariables false
set_option linter.unusedSimpArgs false
variable {Wb w w' : World} {s : St}

/-- a script that comes in. -/
def OpsAt (w : World) (a : Option Addr) (len : Nat) (os : List Op21) : Prop := RowsAt w 38 a len (os.map opl) ∧ ∀ o ∈ os, Strs w o.r.a
theorem rows_op {W : World} {l : List (List Value)} (h : ∀ r ∈ l, ∃ o : Op21, r = opl o ∧ Strs W o.r.a) : ∃ os : List Op21, l = os.map opl ∧ ∀ o ∈ os, Strs W o.r.a := by
  induction l with
  | nil => exact ⟨[], rfl, by simp⟩
  | cons r l ih =>
    obtain ⟨p, rfl, hp⟩ := h r (by simp)
    obtain ⟨ps, rfl, hps⟩ := ih fun r hr => h r (by simp [hr])
    exact ⟨p :: ps, rfl, fun z hz => (List.mem_cons.1 hz).elim (fun e => e ▸ hp) (hps z)⟩
set_option maxRecDepth 100000 in
theorem open_ops {H : Type} {enc : TypeId × Value → H} {W : World} {base : Nat} {v : Value} {d : DataW H} {p : List MemPlace} (hv : Value.okWide Try.prog W .any base 25 v) (h : DataW.Trod enc Try.prog W 0 (fun _ => true) true 25 v d p) :
    ∃ a len cap os, v = .slice a len cap ∧ OpsAt W a len os ∧ len ≤ cap ∧ cap ≤ maxLen := by
  obtain ⟨a, len, cap, rfl⟩ := okWide_slice Try.underlying25 hv
  obtain ⟨rows, hr, _, h1, h2, hs⟩ := open_rows Try.underlying25 (C := 38) (by kernel_rfl) (by omega) h
  obtain ⟨os, rfl, ho⟩ := rows_op (W := W) fun r hrm => by
    obtain ⟨hl, n, y, hy⟩ := hs r hrm
    obtain ⟨o, ho, hz⟩ := shape60 hy hl
    exact ⟨o, ho, hz⟩
  exact ⟨a, len, cap, os, rfl, ⟨hr, ho⟩, h1, h2⟩
theorem OpsAt.get {a : Option Addr} {len : Nat} {os : List Op21} (h : OpsAt w a len os) (k : Nat) (hk : k < len) (hb : Below w.heap.size w w') :
    ∃ b off o, a = some ⟨b, off, none⟩ ∧ os[k]? = some o ∧ Strs w o.r.a ∧ b < w'.heap.size ∧ w'.rangeAt b (off + k * 38) (oc o).toList ∧ w'.cell? ⟨b, off + k * 38, none⟩ = some (.int .i64 o.kd) := by
  have hl : os.length = len := by have := h.1.1; rwa [List.length_map] at this
  obtain ⟨⟨h1, h2⟩, hx⟩ := h
  obtain ⟨b, off, rfl, hbl, hc⟩ := h2.resolve_left (by omega)
  have hp : os[k]? = some (os[k]'(by omega)) := List.getElem?_eq_getElem (by omega)
  have hr : (os.map opl)[k]? = some (opl (os[k]'(by omega))) := by rw [List.getElem?_map, hp]; rfl
  have hq : w'.rangeAt b (off + k * 38) (oc (os[k]'(by omega))).toList := fun j u hu => (hb.cell (p := ⟨b, off + k * 38 + j, none⟩) hbl).trans (hc k _ hr j u hu)
  exact ⟨b, off, _, rfl, hp, hx _ (List.getElem_mem _), Nat.lt_of_lt_of_le hbl hb.size, hq, hq 0 _ rfl⟩
theorem OpsAt.below {a : Option Addr} {len : Nat} {os : List Op21} (h : OpsAt w a len os) (hb : Below w.heap.size w w') : OpsAt w' a len os := ⟨h.1.below hb (Nat.le_refl _), fun o ho => (h.2 o ho).below hb⟩
theorem onS_nu (s : St) : (onS s).nu = s.nu := by
  unfold onS
  split <;> rfl
theorem midS_nu (s : St) (o : Op21) : (midS s o).nu = s.nu ∨ (midS s o).nu = s.nu + 1 := by
  unfold midS
  split
  · unfold startS
    split
    · exact .inr rfl
    · exact .inl rfl
  · left
    split
    · unfold takeS
      split
      · split
        · exact onS_nu s
        · rfl
      · rfl
    · split
      · unfold tickS
        split
        · split
          · exact onS_nu _
          · rfl
        · rfl
      · split <;> rfl
theorem strs_zero : Strs Wb zeroAn := ⟨Nat.zero_le _, .inl rfl⟩
theorem onS_strs (h : ∀ r, s.done = [r] → Strs Wb r.a) : ∀ r, (onS s).done = [r] → Strs Wb r.a := by
  unfold onS
  split
  · intro r hr
    have h1 : r = ⟨s.nu, 210, zeroAn⟩ := (List.head_eq_of_cons_eq hr).symm
    rw [h1]; exact strs_zero
  · exact h
theorem midS_strs (h : ∀ r, s.done = [r] → Strs Wb r.a) (o : Op21) (ho : Strs Wb o.r.a) : ∀ r, (midS s o).done = [r] → Strs Wb r.a := by
  have hans : (ansS s o).a = o.r.a := by unfold ansS; split <;> rfl
  unfold midS
  split
  · unfold startS
    split
    · exact h
    · exact h
  · split
    · unfold takeS
      split
      · split
        · exact onS_strs h
        · intro r hr
          have h1 : r = ⟨s.nu, (ansS s o).co, if (ansS s o).co = 0 then (ansS s o).a else zeroAn⟩ := (List.head_eq_of_cons_eq hr).symm
          rw [h1]
          show Strs Wb (if (ansS s o).co = 0 then (ansS s o).a else zeroAn)
          split
          · rw [hans]; exact ho
          · exact strs_zero
      · exact h
    · split
      · unfold tickS
        split
        · split
          · exact onS_strs (s := { s with wait := s.wait + 1 }) h
          · exact h
        · exact h
      · split
        · intro r hr; cases hr
        · exact h
/-- what stays true from call to call. -/
structure Keeps (Wb : World) (zs : List Int) (k : Nat) (s : St) : Prop where
  ok : Okay s
  out : s.out = []
  nu : s.nu ≤ (k : Int)
  strs : ∀ r, s.done = [r] → Strs Wb r.a
  many : s.many = zs
theorem Keeps.step {zs : List Int} {k : Nat} (h : Keeps Wb zs k s) (hk : k < 100000) (o : Op21) (ho : Strs Wb o.r.a) : Keeps Wb zs (k + 1) (outS (midS s o)) := by
  have hn := h.nu
  have h1 := midS_nu s o
  exact ⟨(midS_ok h.ok o (by omega)).out, rfl, by show (midS s o).nu ≤ ((k + 1 : Nat) : Int); omega, midS_strs h.strs o ho, (midS_many s o).trans h.many⟩
theorem Keeps.new (cl : Int) (zs : List Int) (pa : Int) (h : newB cl zs pa = true) : Keeps Wb zs 0 (newS cl zs pa) :=
  ⟨newS_ok cl zs pa h, rfl, by show (0 : Int) ≤ 0; omega, (fun r hr => by cases hr), rfl⟩
end Go.Proofs.Ytlkilkndjfcejaa
