/- The document's example (awake): it holds. -/
import Derived.Test.YtgcbfbdhibbpdaaMOwn
set_option linter.unusedVariables false
set_option linter.unusedSimpArgs false
namespace Go.Proofs.Ytgcbfbdhibbpdaa.Tb
open Go.RowKit Go.Proofs.YtgcbfbdhibbpdaaW.PrintWords Go.Proofs.YtgcbfbdhibbpdaaW.PrintLast Go.Proofs.YtgcbfbdhibbpdaaW.PrintMore
attribute [local go_sem] max2_int min2_int
theorem below_step {w w1 w2 : World} (h : Below w.heap.size w w1) (k : Below w1.heap.size w1 w2) : Below w.heap.size w w2 := h.trans (k.mono h.size)
/-- Owners at the start: all is owner 0's. -/
def own0 : Nat → Nat := fun _ => 0
theorem lv_a : lvS 2 [(true, 0)] (pk 2 0 0) = true := by decide
theorem lv_b : lvS 2 [(true, 1)] (pk 2 0 0) = false := by decide
theorem pk_a : pk 2 0 0 = 9223372036854775808 := by decide
theorem pk_b : pk 2 0 1 = 9223372041149743104 := by decide
set_option maxRecDepth 4000 in
set_option maxHeartbeats 2000000 in
theorem awake_calls (w : World) : Calls Try.prog 8 #[] w fun e w' => e = .returned (.bool true) ∧ Below w.heap.size w w' := by
  obtain ⟨p, hp⟩ : ∃ p, p = pk 2 0 0 := ⟨_, rfl⟩
  obtain ⟨q, hq⟩ : ∃ q, q = pk 2 0 1 := ⟨_, rfl⟩
  have hP := Aside0.mk (pack_is 2 0 0 (by omega) (by omega) (by omega))
  have hQ := Aside0.mk (pack_is 2 0 1 (by omega) (by omega) (by omega))
  rw [← hp] at hP
  rw [← hq] at hQ
  have hp0 : 0 ≤ p ∧ p < 18446744073709551616 := by rw [hp, pk_a]; omega
  have HP0 := Aside0.mk hp0
  have HA := Aside0.mk (show lvS 2 [(true, 0)] p = true by rw [hp]; exact lv_a)
  have HB := Aside0.mk (show lvS 2 [(true, 1)] p = false by rw [hp]; exact lv_b)
  have HX := Aside0.mk (show ixn p = 0 by rw [hp]; decide)
  have HP := Aside0.mk hp
  have HQ := Aside0.mk hq
  clear hp hq hp0
  obtain ⟨base, hbs⟩ : ∃ b, b = w.heap.size := ⟨_, rfl⟩
  have HBA := Aside0.mk (Nat.le_of_eq hbs)
  have HBE := Aside0.mk hbs
  clear hbs
  go_enter Try.func8, Try.ntmps8
  go_wp2_with fail
  refine (new_calls 2 w base (tg own0 0) HBA.out (fun _ _ => rfl)).mono ?_
  rintro e w1 ⟨rfl, hT1, hF1⟩
  obtain ⟨g, hg⟩ : ∃ g, g = w.heap.size := ⟨_, rfl⟩
  rw [← hg] at hT1
  rw [← hg]
  have HF1 := Aside0.mk hF1
  have HT1 := Aside0.mk hT1
  have HG := Aside0.mk hg
  clear hF1 hT1 hg
  go_wp2_with fail
  have h := add_own HT1.out Good.nil (by omega) 7 (Nat.le_trans HBA.out HF1.out.b.size)
  rw [show pk 2 (addI (sk []) []) (addG (sk []) []) = p from HP.out.symm, show addL [] [] 7 = [⟨7, true, 0⟩] from rfl] at h
  have H := Aside0.mk h
  clear h
  refine H.out.mono ?_
  rintro e w2 ⟨rfl, hT2, hF2⟩
  have HT2 := Aside0.mk hT2
  have HF2 := Aside0.mk hF2
  clear H hT2 hF2
  go_wp2_with fail
  refine (get_own HT2.out p HP0.out.1 HP0.out.2 HA.out).mono ?_
  rw [HX.out]
  rintro e w3 ⟨rfl, hb3⟩
  have HB3 := Aside0.mk hb3
  have HT3 := Aside0.mk (HT2.out.below hb3)
  clear hb3
  go_wp2_with fail
  have h := drop_own HT3.out (show Good (sk [⟨7, true, 0⟩]) [] from Good.nil.add (by decide)) p HP0.out.1 HP0.out.2 (Nat.le_trans (Nat.le_trans (Nat.le_trans HBA.out HF1.out.b.size) HF2.out.b.size) HB3.out.size) HA.out
  rw [HX.out, show dropL [⟨7, true, 0⟩] 0 = [⟨0, false, 1⟩] from rfl] at h
  have H := Aside0.mk h
  clear h
  refine H.out.mono ?_
  rintro e w4 ⟨rfl, hT4, hF4⟩
  have HT4 := Aside0.mk (show TB w4 base (tg (up (up own0 w1.heap.size 0) w3.heap.size 0) 0) g 2 [⟨0, false, 1⟩] ([] ++ [((0 : Nat) : Int)]) from hT4)
  have HF4 := Aside0.mk hF4
  clear H hT4 hF4
  go_wp2_with fail
  have h := add_own HT4.out (show Good (sk [⟨0, false, 1⟩]) ([] ++ [((0 : Nat) : Int)]) from (Good.nil.add (by decide)).drop (i := 0) (by decide) (by decide)) (by omega) 8 (Nat.le_trans (Nat.le_trans (Nat.le_trans (Nat.le_trans HBA.out HF1.out.b.size) HF2.out.b.size) HB3.out.size) HF4.out.b.size)
  rw [show pk 2 (addI (sk [⟨0, false, 1⟩]) ([] ++ [((0 : Nat) : Int)])) (addG (sk [⟨0, false, 1⟩]) ([] ++ [((0 : Nat) : Int)])) = q from HQ.out.symm] at h
  have H := Aside0.mk h
  clear h
  refine H.out.mono ?_
  rintro e w5 ⟨rfl, hT5, hF5⟩
  have HT5 := Aside0.mk (show TB w5 base (tg (up (up (up own0 w1.heap.size 0) w3.heap.size 0) w4.heap.size 0) 0) g 2 [⟨8, true, 1⟩] [] from hT5)
  have HF5 := Aside0.mk hF5
  clear H hT5 hF5
  go_wp2_with fail
  refine (get_not HT5.out p HP0.out.1 HP0.out.2 HB.out).mono ?_
  rintro e w6 ⟨rfl, hb6⟩
  have HB6 := Aside0.mk hb6
  have HT6 := Aside0.mk (HT5.out.below hb6)
  clear hb6
  go_wp2_with fail
  refine (handle_Pack.calls 2 0 0 p w6 hP.out).mono ?_
  rintro e w7 ⟨rfl, hd7⟩
  have HB7 := Aside0.mk hd7.below
  clear hd7
  go_wp2_with fail
  refine (handle_Pack.calls 2 0 1 q w7 hQ.out).mono ?_
  rintro e w8 ⟨rfl, hd8⟩
  have HB8 := Aside0.mk hd8.below
  clear hd8
  have HT8 := Aside0.mk ((HT6.out.below HB7.out).below HB8.out)
  go_wp2_with fail
  refine (len_own HT8.out).mono ?_
  rintro e w9 ⟨rfl, hb9⟩
  have HB9 := Aside0.mk hb9
  clear hb9
  go_wp2
  go_ret
  have hF : Fr base (tg (up (up (up own0 w1.heap.size 0) w3.heap.size 0) w4.heap.size 0) 0) w4 w5 := HF5.out
  refine ⟨rfl, ?_⟩
  have h5 : Below base w w5 := (((HF1.out.b.trans HF2.out.b).trans (HB3.out.mono (Nat.le_trans (Nat.le_trans HBA.out HF1.out.b.size) HF2.out.b.size))).trans HF4.out.b).trans HF5.out.b
  rw [HBE.out] at h5
  exact below_step (below_step (below_step (below_step h5 HB6.out) HB7.out) HB8.out) HB9.out
end Go.Proofs.Ytgcbfbdhibbpdaa.Tb
