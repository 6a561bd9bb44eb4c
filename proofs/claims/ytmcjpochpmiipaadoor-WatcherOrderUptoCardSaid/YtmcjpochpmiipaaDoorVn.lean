/- watcher: alive. Conditions: the library's variable is there. -/
import Derived.Test.YtmcjpochpmiipaaDoorVm
namespace Go.Proofs.YtmcjpochpmiipaaDoor
open Go Go.RowKit Zn
set_option linter.unusedVariables false
set_option linter.unusedSimpArgs false
variable {w w' : World} {base n : Nat} {v : Value} {L : List Wt}

def pA : ByteArray := ⟨#[47, 97]⟩
def xA : Wt := (2, pA, false)
def eA : Ev := (0, 2, pA)
theorem addB_A : addB [] xA = true := by decide +kernel
theorem addL_A : addL [] xA = [xA] := by
  have h : (okW xA && !isIn [] xA && decide (([] : List Wt).length < 500)) = true := by decide +kernel
  unfold addL
  rw [h]
  rfl
theorem touch_A : touchB 2 pA xA = true := by decide +kernel
theorem fired_A : firedE 2 pA [xA] = [(2, 2, pA)] := by
  unfold firedE firedS
  simp only [List.foldl_cons, List.foldl_nil, stepT, touch_A, if_true, List.getLast?_nil]
  rfl
theorem fireL_A : fireL 2 pA [xA] = [] := by
  unfold fireL
  rw [List.filter_cons]
  simp [touch_A]
theorem Mx.goes (h : Mx w) {v v' : Value} (hg : Goes w w' n v v') (ht : Tab w base n v L) (h0 : 0 < base) : Mx w' := by
  obtain ⟨m, hm⟩ := h
  refine ⟨m, ?_⟩
  have hlt : 0 < w.heap.size := Mx.lt ⟨m, hm⟩
  have hb : w'.heap[0]? = w.heap[0]? := hg.touch.block 0 hlt (fun ho => by have := ht.of_ge 0 ho; omega)
  rw [World.cell?_of_block (w := w) (a := ⟨0, 0, none⟩) hb]
  exact hm
theorem alive_any (w : World) (hx : Mx w) : Calls Tryd.prog 10 #[] w fun e w' => e = .returned (.bool true) ∧ Below w.heap.size w w' := by
  have h0 := hx.lt
  have C0 := Lib.hid (new_any w)
  have HMX := Lib.hid hx
  clear hx
  go_enter Tryd.func10, Tryd.ntmps10
  go_wp2_with fail
  refine C0.out.mono ?_
  rintro e w1 ⟨rfl, t1, b1⟩
  have C1 := Lib.hid (add_any xA t1 b1.size good_nil.1 (by simp) (HMX.out.below b1) (by decide))
  rw [show Added w1 w.heap.size w.heap.size (.slice none 0 0) [] xA = fun e w' => e = .returned (.bool (addB [] xA)) ∧ ∃ v', Tab w' w.heap.size w.heap.size v' (addL [] xA) ∧ Goes w1 w' w.heap.size (.slice none 0 0) v' from rfl, addB_A, addL_A] at C1
  have HT1 := Lib.hid t1
  have HB1 := Lib.hid b1
  unfold xA pA tv at C1
  simp only at C1
  clear t1 b1 C0
  go_wp2_with fail
  refine C1.out.mono ?_
  rintro e w2 ⟨rfl, v2, t2, g2⟩
  have HT2 := Lib.hid (show Tab w2 w.heap.size w.heap.size v2 [xA] from t2)
  have HG2 := Lib.hid g2
  have hs2 := g2.touch.size
  have hs1 := HB1.out.size
  have C2 := Lib.hid (fire_any eA HT2.out (by omega) (by simp))
  rw [show eA.2.1 = 2 from rfl, show eA.2.2 = pA from rfl, fired_A, fireL_A] at C2
  unfold eA pA ev at C2
  simp only at C2
  clear t2 g2 C1
  go_wp2_with fail
  refine C2.out.mono ?_
  rintro e w3 ⟨vt, rfl, own3, v3, t3, g3⟩
  obtain ⟨g, cap, rfl, hg, d0, d1, d2⟩ := eown_cells (l := [(2, 2, pA)]) own3 0 (2, 2, pA) rfl
  have C3 := Lib.hid (len_any t3 (by simp))
  unfold pA at d2
  simp only [Nat.zero_mul, Nat.zero_add] at d0 d1 d2
  have HB3 := Lib.hid (show Below w.heap.size w w3 from g3.below (HG2.out.below HB1.out (Nat.le_refl _) HT1.out.of_ge) (Nat.le_refl _) HT2.out.of_ge)
  clear own3 t3 g3 C2
  go_wp2_with fail
  refine C3.out.mono ?_
  rintro e w4 ⟨rfl, rfl⟩
  go_wp2
  go_ret
  exact ⟨rfl, HB3.out⟩
end Go.Proofs.YtmcjpochpmiipaaDoor
