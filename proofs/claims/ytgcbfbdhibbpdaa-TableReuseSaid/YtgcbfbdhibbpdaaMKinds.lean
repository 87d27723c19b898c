/- TableKinds, walked by hand: a handle of another kind, of a slot that never was, or of another generation, is of nothing. -/
import Derived.Test.YtgcbfbdhibbpdaaMAwake
set_option linter.unusedVariables false
set_option linter.unusedSimpArgs false
namespace Go.Proofs.Ytgcbfbdhibbpdaa.Tb
open Go.ChangeShapes Go.RowKit Go.Proofs.YtgcbfbdhibbpdaaW.PrintWords Go.Proofs.YtgcbfbdhibbpdaaW.PrintLast Go.Proofs.YtgcbfbdhibbpdaaW.PrintMore
attribute [local go_sem] max2_int min2_int
/-- k slots, each with its own number. -/
def slK (k : Nat) : List S76 := (List.range k).map fun (i : Nat) => (⟨(i : Int), true, 0⟩ : S76)
theorem slK_len (k : Nat) : (slK k).length = k := by simp [slK]
theorem slK_add (k : Nat) : addL (slK k) [] (k : Int) = slK (k + 1) := by unfold addL slK; rw [if_pos rfl, List.range_succ, List.map_append]; rfl
theorem slK_get {k i : Nat} (h : i < k) : (slK k).getD i z76 = ⟨(i : Int), true, 0⟩ := by
  unfold slK
  rw [List.getD_eq_getElem?_getD, List.getElem?_map, List.getElem?_range h]
  rfl
theorem slK_good {k : Nat} (h : k ≤ 200) : Good (sk (slK k)) [] := by
  refine ⟨fun x hx => ?_, by simp, by simp, fun i hi hu => ?_, by rw [sk_length, slK_len]; exact h⟩
  · simp only [sk, slK, List.map_map, List.mem_map] at hx
    obtain ⟨_, _, rfl⟩ := hx
    exact ⟨by show (0:Int) ≤ 0; decide, by show (0:Int) < 1073741824; decide⟩
  · rw [sk_length, slK_len] at hi
    rw [sk_getD, slK_get hi] at hu
    exact absurd (show true = false from hu) (by decide)
theorem kinds_lv {k g : Int} {slot m : Nat} (hk : 1 ≤ k ∧ k ≤ 3) (hs : slot < 4294967296) (hg : 0 ≤ g ∧ g < 1073741824) : lvS 2 (sk (slK m)) (pk k slot g) = decide (k = 2 ∧ slot < m ∧ g = 0) := by
  obtain ⟨h1, h2, h3, h4, h5⟩ := pk_parts hk hs hg
  rw [Bool.eq_iff_iff, lvS_iff, decide_eq_true_eq, h3, h4, h5, sk_length, slK_len]
  constructor
  · rintro ⟨_, b, _, d, e⟩
    rw [sk_getD, slK_get b] at e
    exact ⟨d, b, e⟩
  · rintro ⟨a, b, c⟩
    rw [sk_getD, slK_get b]
    exact ⟨h1, b, rfl, a, c⟩
set_option maxRecDepth 4000 in
set_option maxHeartbeats 2000000 in
theorem kinds_walk (kind slot gen n : Int) (w : World) (hk : 0 ≤ kind ∧ kind ≤ 255) (hs : 0 ≤ slot ∧ slot ≤ 4294967295) (hg : 0 ≤ gen ∧ gen ≤ 4294967295) (hn : 0 ≤ n ∧ n ≤ 255) :
    Calls Try.prog 5 #[.int .u8 kind, .int .u32 slot, .int .u32 gen, .int .u8 n] w fun e w' => e = .returned (.bool true) ∧ Below w.heap.size w w' := by
  obtain ⟨m, hm⟩ : ∃ m : Nat, (m : Int) = n % 9 := ⟨(n % 9).toNat, by omega⟩
  obtain ⟨k, hkk⟩ : ∃ k : Int, k = kind % 3 + 1 := ⟨_, rfl⟩
  obtain ⟨g0, hgg⟩ : ∃ g : Int, g = gen % 1073741824 := ⟨_, rfl⟩
  obtain ⟨s, hss⟩ : ∃ s : Nat, slot = s := ⟨slot.toNat, by omega⟩
  subst hss
  have hk1 : 1 ≤ k ∧ k ≤ 3 := by omega
  have hg1 : 0 ≤ g0 ∧ g0 < 1073741824 := by omega
  have hm9 : m < 9 := by omega
  obtain ⟨p, hp⟩ : ∃ p, p = pk k s g0 := ⟨_, rfl⟩
  have HPK := Aside0.mk (pack_is k s g0 (by omega) (by omega) (by omega))
  rw [← hp] at HPK
  have hpp := pk_parts hk1 (show s < 4294967296 by omega) hg1
  rw [← hp] at hpp
  have HLV := Aside0.mk (kinds_lv (m := m) hk1 (show s < 4294967296 by omega) hg1)
  rw [← hp] at HLV
  have HPP := Aside0.mk hpp
  have HP0 := Aside0.mk (show 0 ≤ p ∧ p < 18446744073709551616 by omega)
  clear hp hpp
  obtain ⟨base, hbs⟩ : ∃ b, b = w.heap.size := ⟨_, rfl⟩
  have HBA := Aside0.mk (Nat.le_of_eq hbs)
  have HBE := Aside0.mk hbs
  clear hbs
  go_enter Try.func5, Try.ntmps5
  go_wp2_with fail
  refine (awake_calls w).mono ?_
  rintro e w1 ⟨rfl, hb1⟩
  have HB1 := Aside0.mk hb1
  clear hb1
  go_wp2_with fail
  refine (new_calls 2 w1 base (tg own0 0) (Nat.le_trans HBA.out HB1.out.size) (fun _ _ => rfl)).mono ?_
  rintro e w2 ⟨rfl, hT2, hF2⟩
  obtain ⟨g, hgw⟩ : ∃ g, g = w1.heap.size := ⟨_, rfl⟩
  rw [← hgw] at hT2
  rw [← hgw]
  have HT2 := Aside0.mk hT2
  have HB2 := Aside0.mk (show Below base w w2 from (HB1.out.mono HBA.out).trans hF2.b)
  clear hT2 hF2 hgw HB1
  go_wp2_with fail
  go_loopw [11] (fun i wr => ∃ (k : Nat) (own : Nat → Nat), k ≤ m ∧ i = .int .i64 k ∧ Aside0 (TB wr base (tg own 0) g 2 (slK k) []) ∧ Aside0 (Below base w wr)) (fun i _ => m - (intOf i).toNat)
  case atStart => exact ⟨0, own0, Nat.zero_le _, rfl, HT2, HB2⟩
  case round =>
    obtain ⟨j, own, hj, rfl, hT, hB⟩ := hrel
    clear HT2 HB2
    by_cases hlt : j < m
    · have hlt2 : (j : Int) < n % 9 := by omega
      have HA := Aside0.mk (add_own hT.out (slK_good (by omega)) (by omega) (j : Int) (Nat.le_trans HBA.out hB.out.size))
      go_wp2_with fail
      refine HA.out.mono ?_
      rintro e w3 ⟨rfl, hT3, hF3⟩
      rw [slK_add] at hT3
      have HT3 := Aside0.mk hT3
      have HB3 := Aside0.mk (hB.out.trans hF3.b)
      clear hT3 hF3
      go_wp2
      go_roundw
      case rel => exact ⟨j + 1, _, by omega, by go_num, HT3, HB3⟩
      case measure => simp [intOf]; omega
    · have hjm : j = m := by omega
      subst hjm
      have hnlt : ¬ (j : Int) < n % 9 := by omega
      go_wp2_with fail
      rw [← hkk, ← hgg]
      refine (handle_Pack.calls k s g0 p wr HPK.out).mono ?_
      rintro e w3 ⟨rfl, hd3⟩
      have HB3 := Aside0.mk (hB.out.trans (hd3.below.mono (Nat.le_trans HBA.out hB.out.size)))
      have HT3 := Aside0.mk (hT.out.below hd3.below)
      clear hd3
      cases hlv : lvS 2 (sk (slK j)) p with
      | true =>
        have h3 : k = 2 ∧ s < j ∧ g0 = 0 := by have := HLV.out; rw [hlv] at this; exact of_decide_eq_true this.symm
        have HLT := Aside0.mk hlv
        obtain ⟨hk2, hsj, hg2⟩ := h3
        have HG := Aside0.mk (get_own HT3.out p HP0.out.1 HP0.out.2 hlv)
        rw [HPP.out.2.2.1, slK_get hsj] at HG
        have hsj2 : (s : Int) < n % 9 := by omega
        clear hlv
        go_wp2_with fail
        refine HG.out.mono ?_
        rintro e w4 ⟨rfl, hb4⟩
        have HB4 := Aside0.mk hb4
        clear hb4
        go_wp2
        go_ret
        exact ⟨rfl, by rw [← HBE.out]; exact HB3.out.trans (HB4.out.mono (Nat.le_trans HBA.out HB3.out.size))⟩
      | false =>
        have h3 : ¬ (k = 2 ∧ s < j ∧ g0 = 0) := by have := HLV.out; rw [hlv] at this; exact of_decide_eq_false this.symm
        have HLT := Aside0.mk hlv
        have HG := Aside0.mk (get_not HT3.out p HP0.out.1 HP0.out.2 hlv)
        clear hlv
        by_cases c1 : k = 2
        · by_cases c2 : s < j
          · have c3 : ¬ g0 = 0 := fun h => h3 ⟨c1, c2, h⟩
            have c4 : (s : Int) < n % 9 := by omega
            clear h3
            go_wp2_with fail
            refine HG.out.mono ?_
            rintro e w4 ⟨rfl, hb4⟩
            have HB4 := Aside0.mk (HB3.out.trans (hb4.mono (Nat.le_trans HBA.out HB3.out.size)))
            have HT4 := Aside0.mk (HT3.out.below hb4)
            clear hb4
            go_wp2_with fail
            refine (set_not HT4.out p 1 HP0.out.1 HP0.out.2 HLT.out).mono ?_
            rintro e w5 ⟨rfl, hb5⟩
            have HB5 := Aside0.mk (HB4.out.trans (hb5.mono (Nat.le_trans HBA.out HB4.out.size)))
            have HT5 := Aside0.mk (HT4.out.below hb5)
            clear hb5
            go_wp2_with fail
            refine (drop_not HT5.out p HP0.out.1 HP0.out.2 HLT.out).mono ?_
            rintro e w6 ⟨rfl, hb6⟩
            have HB6 := Aside0.mk (HB5.out.trans (hb6.mono (Nat.le_trans HBA.out HB5.out.size)))
            clear hb6
            go_wp2
            go_ret
            exact ⟨rfl, by rw [← HBE.out]; exact HB6.out⟩
          · have c4 : ¬ (s : Int) < n % 9 := by omega
            clear h3
            go_wp2_with fail
            refine HG.out.mono ?_
            rintro e w4 ⟨rfl, hb4⟩
            have HB4 := Aside0.mk (HB3.out.trans (hb4.mono (Nat.le_trans HBA.out HB3.out.size)))
            have HT4 := Aside0.mk (HT3.out.below hb4)
            clear hb4
            go_wp2_with fail
            refine (set_not HT4.out p 1 HP0.out.1 HP0.out.2 HLT.out).mono ?_
            rintro e w5 ⟨rfl, hb5⟩
            have HB5 := Aside0.mk (HB4.out.trans (hb5.mono (Nat.le_trans HBA.out HB4.out.size)))
            have HT5 := Aside0.mk (HT4.out.below hb5)
            clear hb5
            go_wp2_with fail
            refine (drop_not HT5.out p HP0.out.1 HP0.out.2 HLT.out).mono ?_
            rintro e w6 ⟨rfl, hb6⟩
            have HB6 := Aside0.mk (HB5.out.trans (hb6.mono (Nat.le_trans HBA.out HB5.out.size)))
            clear hb6
            go_wp2
            go_ret
            exact ⟨rfl, by rw [← HBE.out]; exact HB6.out⟩
        · clear h3
          go_wp2_with fail
          refine HG.out.mono ?_
          rintro e w4 ⟨rfl, hb4⟩
          have HB4 := Aside0.mk (HB3.out.trans (hb4.mono (Nat.le_trans HBA.out HB3.out.size)))
          have HT4 := Aside0.mk (HT3.out.below hb4)
          clear hb4
          go_wp2_with fail
          refine (set_not HT4.out p 1 HP0.out.1 HP0.out.2 HLT.out).mono ?_
          rintro e w5 ⟨rfl, hb5⟩
          have HB5 := Aside0.mk (HB4.out.trans (hb5.mono (Nat.le_trans HBA.out HB4.out.size)))
          have HT5 := Aside0.mk (HT4.out.below hb5)
          clear hb5
          go_wp2_with fail
          refine (drop_not HT5.out p HP0.out.1 HP0.out.2 HLT.out).mono ?_
          rintro e w6 ⟨rfl, hb6⟩
          have HB6 := Aside0.mk (HB5.out.trans (hb6.mono (Nat.le_trans HBA.out HB5.out.size)))
          clear hb6
          go_wp2
          go_ret
          exact ⟨rfl, by rw [← HBE.out]; exact HB6.out⟩
end Go.Proofs.Ytgcbfbdhibbpdaa.Tb
