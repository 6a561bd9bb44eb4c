/- porter in plain words: whom an unanswered call asks, and when it ends. Conditions: as in each statement. -/
import Derived.Test.YtlkilkndjfcejaaPj
namespace Go.Proofs.Ytlkilkndjfcejaa
open Go Go.RowKit
set_option linter.unusedVariables false
set_option linter.unusedSimpArgs false
variable {s s' : St}

def rqs (vol : Nat) (c : Cl) (n : Nat) (j : Nat) : List Rq := (List.range j).map fun (i : Nat) => ⟨vol, ((i % n : Nat) : Int), c⟩
theorem rqs_succ (vol : Nat) (c : Cl) (n j : Nat) : rqs vol c n (j + 1) = rqs vol c n j ++ [⟨vol, ((j % n : Nat) : Int), c⟩] := by simp [rqs, List.range_succ]
/-- under way: the j-th asking, r ticks ago. -/
structure At (s : St) (P n vol : Nat) (c : Cl) (j r : Nat) : Prop where
  fit : Fit s
  busy : s.busy = true
  pa : s.pa = P
  nu : s.nu = 1
  vol : s.vol = vol
  mv : mv s = n
  gv : gv s = ((j % n : Nat) : Int)
  wait : s.wait = r
  vain : s.vain = j
  c : s.c = c
  done : s.done = []
variable {P n vol j r : Nat} {c : Cl}
theorem At.out (h : At s P n vol c j r) : At (outS s) P n vol c j r := ⟨⟨h.fit.len, h.fit.few, h.fit.vol, h.fit.many, h.fit.guess, h.fit.nu0, h.fit.nu1, h.fit.wait0, h.fit.wait1, h.fit.pa0, h.fit.pa, h.fit.vain0, h.fit.vain1, h.fit.done⟩, h.busy, h.pa, h.nu, h.vol, h.mv, h.gv, h.wait, h.vain, h.c, h.done⟩
theorem At.mid (h : At s P n vol c j r) (hr : r + 1 < P) : At (tickS s) P n vol c j (r + 1) ∧ (tickS s).out = s.out := by
  have ht : tickS s = { s with wait := s.wait + 1 } := by
    rw [tickS, if_pos h.busy, if_neg]
    rw [h.pa, h.wait]; omega
  rw [ht]
  refine ⟨⟨⟨h.fit.len, h.fit.few, h.fit.vol, h.fit.many, h.fit.guess, h.fit.nu0, h.fit.nu1, ?_, ?_, h.fit.pa0, h.fit.pa, h.fit.vain0, h.fit.vain1, h.fit.done⟩, h.busy, h.pa, h.nu, h.vol, h.mv, h.gv, ?_, h.vain, h.c, h.done⟩, rfl⟩
  · show 0 ≤ s.wait + 1; have := h.fit.wait0; omega
  · show s.wait + 1 ≤ s.pa; rw [h.pa, h.wait]; omega
  · show s.wait + 1 = _; rw [h.wait]; rfl
theorem At.next (h : At s P n vol c j r) (hr : r + 1 = P) (hj : j + 1 < 3 * n) : At (tickS s) P n vol c (j + 1) 0 ∧ (tickS s).out = s.out ++ [⟨vol, (((j + 1) % n : Nat) : Int), c⟩] := by
  have hn : 0 < n := by omega
  have hj2 : s.vain < 3 * Go.Proofs.Ytlkilkndjfcejaa.mv s := by rw [h.mv, h.vain]; omega
  have hf1 : Fit { s with wait := s.wait + 1 } := ⟨h.fit.len, h.fit.few, h.fit.vol, h.fit.many, h.fit.guess, h.fit.nu0, h.fit.nu1, by show 0 ≤ s.wait + 1; have := h.fit.wait0; omega, by show s.wait + 1 ≤ s.pa; rw [h.pa, h.wait]; omega, h.fit.pa0, h.fit.pa, h.fit.vain0, h.fit.vain1, h.fit.done⟩
  have hok := hf1.on hj2 h.done
  have ht : tickS s = onS { s with wait := s.wait + 1 } := by
    rw [tickS, if_pos h.busy, if_pos]
    rw [h.pa, h.wait]; omega
  have hon : onS { s with wait := s.wait + 1 } = askS { s with wait := s.wait + 1, vain := s.vain + 1, guess := s.guess.set s.vol ((Go.Proofs.Ytlkilkndjfcejaa.gv s + 1) % Go.Proofs.Ytlkilkndjfcejaa.mv s) } := by
    rw [onS, if_neg]
    · rfl
    · show ¬ 3 * Go.Proofs.Ytlkilkndjfcejaa.mv s ≤ s.vain + 1
      rw [h.mv, h.vain]; omega
  have hlt : s.vol < s.guess.length := by rw [h.fit.len]; exact h.fit.vol
  have hg : (s.guess.set s.vol ((Go.Proofs.Ytlkilkndjfcejaa.gv s + 1) % Go.Proofs.Ytlkilkndjfcejaa.mv s)).getD s.vol 0 = (((j + 1) % n : Nat) : Int) := by
    rw [List.getD_eq_getElem?_getD, List.getElem?_set_self hlt, Option.getD_some, h.gv, h.mv]
    have e : ((j % n : Nat) : Int) + 1 = ((j % n + 1 : Nat) : Int) := by omega
    rw [e, ← Int.natCast_emod]
    congr 1
    rw [Nat.add_mod, Nat.mod_mod, ← Nat.add_mod]
  rw [ht]
  rw [hon] at hok ⊢
  refine ⟨⟨hok.fit, h.busy, h.pa, h.nu, h.vol, h.mv, hg, rfl, ?_, h.c, h.done⟩, ?_⟩
  · show s.vain + 1 = _; rw [h.vain]; omega
  · show s.out ++ [_] = _
    have e : Rq.mk s.vol ((s.guess.set s.vol ((Go.Proofs.Ytlkilkndjfcejaa.gv s + 1) % Go.Proofs.Ytlkilkndjfcejaa.mv s)).getD s.vol 0) s.c = ⟨vol, (((j + 1) % n : Nat) : Int), c⟩ := by rw [hg, h.vol, h.c]
    exact congrArg (fun q => s.out ++ [q]) e
theorem At.end_ (h : At s P n vol c j r) (hr : r + 1 = P) (hj : 3 * n ≤ j + 1) : (tickS s).busy = false ∧ (tickS s).done = [⟨1, 210, zeroAn⟩] ∧ (tickS s).out = s.out := by
  have ht : tickS s = onS { s with wait := s.wait + 1 } := by
    rw [tickS, if_pos h.busy, if_pos]
    rw [h.pa, h.wait]; omega
  have hon : onS { s with wait := s.wait + 1 } = endS { s with wait := s.wait + 1, vain := s.vain + 1 } ⟨0, 210, zeroAn⟩ := by
    rw [onS, if_pos]
    · show 3 * Go.Proofs.Ytlkilkndjfcejaa.mv s ≤ s.vain + 1
      rw [h.mv, h.vain]; omega
  rw [ht, hon]
  refine ⟨rfl, ?_, rfl⟩
  show [Rs.mk s.nu 210 zeroAn] = _
  rw [h.nu]
/-- behind k ticks. -/
def Turns (P n vol : Nat) (c : Cl) (k : Nat) (s : St) (L : List Rq) : Prop :=
  (∃ j r, k = j * P + r ∧ r < P ∧ j < 3 * n ∧ At s P n vol c j r ∧ L ++ s.out = rqs vol c n (j + 1)) ∨ (3 * n * P ≤ k ∧ s.busy = false ∧ s.done = [⟨1, 210, zeroAn⟩] ∧ L ++ s.out = rqs vol c n (3 * n))
theorem Turns.step {k : Nat} {L : List Rq} (h : Turns P n vol c k s L) : Turns P n vol c (k + 1) (outS (tickS s)) (L ++ (tickS s).out) := by
  rcases h with ⟨j, r, hk, hr, hj, ha, hl⟩ | ⟨hk, hb, hd, hl⟩
  · by_cases h1 : r + 1 < P
    · obtain ⟨h2, h3⟩ := ha.mid h1
      refine .inl ⟨j, r + 1, by omega, h1, hj, h2.out, ?_⟩
      show (L ++ _) ++ [] = _
      rw [List.append_nil, h3, hl]
    · have hr1 : r + 1 = P := by omega
      by_cases h2 : j + 1 < 3 * n
      · obtain ⟨h3, h4⟩ := ha.next hr1 h2
        refine .inl ⟨j + 1, 0, by rw [Nat.succ_mul]; omega, by omega, h2, h3.out, ?_⟩
        show (L ++ _) ++ [] = _
        rw [List.append_nil, h4, ← List.append_assoc, hl, rqs_succ (j := j + 1)]
      · obtain ⟨h3, h4, h5⟩ := ha.end_ hr1 (by omega)
        have hj2 : j + 1 = 3 * n := by omega
        refine .inr ⟨?_, h3, h4, ?_⟩
        · rw [← hj2, Nat.succ_mul]; omega
        · show (L ++ _) ++ [] = _
          rw [List.append_nil, h5, hl, hj2]
  · have ht : tickS s = s := by rw [tickS, hb]; rfl
    rw [ht]
    exact .inr ⟨by omega, hb, hd, by show (L ++ _) ++ [] = _; rw [List.append_nil]; exact hl⟩
def c9 : Cl := ⟨0, 0, 9, 0, 0, 0, 0, ⟨#[]⟩, ⟨#[]⟩, 0, 0, 0, ⟨#[]⟩, false, 0, 0, 0, ⟨#[]⟩⟩
theorem new_start_any (cl : Int) (zs : List Int) (pa v : Int) : startB (newS cl zs pa) v c9 = thereB (newS cl zs pa) v := by
  show (true && true && thereB _ v && decide ((1 : Int) ≤ 9) && decide ((9 : Int) ≤ 11)) = _
  simp
theorem getD_rep (m k : Nat) : (List.replicate m (0 : Int)).getD k 0 = 0 := by
  rw [List.getD_eq_getElem?_getD, List.getElem?_replicate]
  split <;> rfl
/-- at the beginning. -/
theorem Turns.start (cl : Int) (zs : List Int) (pa : Nat) (vol : Nat) (hn : newB cl zs pa = true) (hv : vol < zs.length) (n : Nat) (hm : zs.getD vol 0 = n) :
    Turns pa n vol { c9 with cl := cl, nu := 1 } 0 (startS (newS cl zs pa) vol c9) [] := by
  have hst : startB (newS cl zs pa) (vol : Int) c9 = true := by
    rw [new_start_any, thereB]
    simp only [Bool.and_eq_true, decide_eq_true_eq]
    exact ⟨by omega, by show (vol : Int) < (zs.length : Int); omega⟩
  have hok := (newS_ok cl zs pa hn).start (vol : Int) c9 (by show (0 : Int) < 100000; omega)
  have hs : startS (newS cl zs pa) (vol : Int) c9 = askS { newS cl zs pa with nu := 1, busy := true, vol := vol, c := { c9 with cl := cl, nu := 1 }, vain := 0 } := by rw [startS, if_pos hst]; rfl
  have hpa : 0 < (pa : Int) := (newS_ok cl zs pa hn).fit.pa0
  rw [hs] at hok ⊢
  have hmv := hok.fit.mv_in
  have hmv2 : (n : Int) = mv (askS { newS cl zs pa with nu := 1, busy := true, vol := vol, c := { c9 with cl := cl, nu := 1 }, vain := 0 }) := hm.symm
  rw [← hmv2] at hmv
  refine .inl ⟨0, 0, by simp, by omega, by omega, ⟨hok.fit, rfl, rfl, rfl, rfl, hm, ?_, rfl, rfl, rfl, rfl⟩, ?_⟩
  · show (List.replicate zs.length (0 : Int)).getD vol 0 = _
    rw [getD_rep]; simp
  · show [] ++ ([] ++ [Rq.mk vol ((List.replicate zs.length (0 : Int)).getD vol 0) _]) = _
    rw [getD_rep]
    simp [rqs]
theorem rqs_len (vol : Nat) (c : Cl) (n j : Nat) : (rqs vol c n j).length = j := by simp [rqs]
theorem rqs_at (vol : Nat) (c : Cl) (n j i : Nat) (h : i < j) : (rqs vol c n j)[i]? = some ⟨vol, ((i % n : Nat) : Int), c⟩ := by simp [rqs, h]
/-- at the end. -/
theorem Turns.fin {k : Nat} {L : List Rq} (h : Turns P n vol c k s L) (hk : 3 * n * P ≤ k) (ho : s.out = []) : L = rqs vol c n (3 * n) ∧ s.done = [⟨1, 210, zeroAn⟩] := by
  rcases h with ⟨j, r, h1, hr, hj, _, _⟩ | ⟨_, _, hd, hl⟩
  · exfalso
    have : (j + 1) * P ≤ 3 * n * P := Nat.mul_le_mul_right _ (by omega)
    rw [Nat.succ_mul] at this
    omega
  · rw [ho, List.append_nil] at hl
    exact ⟨hl, hd⟩
theorem Turns.len {k : Nat} {L : List Rq} (h : Turns P n vol c k s L) : (L ++ s.out).length ≤ 3 * n := by
  rcases h with ⟨j, r, _, _, hj, _, hl⟩ | ⟨_, _, _, hl⟩ <;> rw [hl, rqs_len] <;> omega
end Go.Proofs.Ytlkilkndjfcejaa
