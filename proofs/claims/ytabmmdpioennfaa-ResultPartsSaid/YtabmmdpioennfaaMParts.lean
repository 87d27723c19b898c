/- ResultParts, walked by hand: the beginnings of two lists that are the same are the same; of two that aren't there is a first place up to which they are. -/
import Derived.Test.YtabmmdpioennfaaMResWalk
set_option linter.unusedVariables false
set_option linter.unusedSimpArgs false
namespace Go.Proofs.Ytabmmdpioennfaa.Re
open Go.RowKit Go.Proofs.YtabmmdpioennfaaW.PrintWords Go.Proofs.YtabmmdpioennfaaW.PrintLast Go.Proofs.YtabmmdpioennfaaW.PrintMore
attribute [local go_sem] max2_int min2_int
theorem rd_take {l : List S43} {n i : Nat} (hi : i < n) (hn : n ≤ l.length) : rd_T43 (l.take n) (i : Int) = rd_T43 l (i : Int) := by
  rw [rd43_get (by rw [List.length_take]; omega), rd43_get (by omega)]; simp
theorem same_take {a b : List S43} (hl : a.length = b.length) {n m : Nat} (hmn : m ≤ n) (hn : n ≤ a.length) (h : SameP (a.take n) (b.take n)) : SameP (a.take m) (b.take m) := by
  have e1 : (a.take n).length = n := by rw [List.length_take]; omega
  have e2 : (a.take m).length = m := by rw [List.length_take]; omega
  have hh : ∀ i, i < m → hd (a.take n) i = hd (a.take m) i := fun i hi => by unfold hd; rw [rd_take (by omega) hn, rd_take hi (by omega)]
  have hh2 : ∀ i, i < m → hd (b.take n) i = hd (b.take m) i := fun i hi => by unfold hd; rw [rd_take (by omega) (by omega), rd_take hi (by omega)]
  refine ⟨by rw [List.length_take, List.length_take]; omega, fun i hi => ?_, fun i hi => ?_, fun i hi => ?_, ?_⟩
  · rw [e2] at hi
    have := h.f0 i (by omega)
    rwa [rd_take (by omega) hn, rd_take (by omega) (by omega), ← rd_take hi (show m ≤ a.length by omega), ← rd_take hi (show m ≤ b.length by omega)] at this
  · rw [e2] at hi
    have := h.f2 i (by omega)
    rwa [rd_take (by omega) hn, rd_take (by omega) (by omega), ← rd_take hi (show m ≤ a.length by omega), ← rd_take hi (show m ≤ b.length by omega)] at this
  · rw [e2] at hi
    have := h.f3 i (by omega)
    rwa [rd_take (by omega) hn, rd_take (by omega) (by omega), ← rd_take hi (show m ≤ a.length by omega), ← rd_take hi (show m ≤ b.length by omega)] at this
  · rw [e2]
    exact (h.pat.mono (by omega)).congr hh hh2
theorem few_take {l : List S43} (h : fewL l = true) (n : Nat) : fewL (l.take n) = true := by
  obtain ⟨h1, h2, h3⟩ := fewL_iff.1 h
  exact fewL_iff.2 ⟨by rw [List.length_take]; omega, fun x hx => h2 x (List.mem_of_mem_take hx), fun x hx => h3 x (List.mem_of_mem_take hx)⟩
theorem few_snoc {l : List S43} (h : fewL l = true) (hl : l.length ≤ 60) : fewL (l ++ [z43]) = true := by
  obtain ⟨h1, h2, h3⟩ := fewL_iff.1 h
  refine fewL_iff.2 ⟨by simp; omega, fun x hx => ?_, fun x hx => ?_⟩
  · rcases List.mem_append.1 hx with hx | hx
    · exact h2 x hx
    · obtain rfl := List.mem_singleton.1 hx; exact Nat.zero_le _
  · rcases List.mem_append.1 hx with hx | hx
    · exact h3 x hx
    · obtain rfl := List.mem_singleton.1 hx; exact ⟨Int.le_refl _, by decide⟩
theorem C_take {w : World} {A : Option Addr} {l : List S43} (h : Kd.C k43 w A l.length l) {n : Nat} (hn : n ≤ l.length) : Kd.C k43 w A n (l.take n) := by
  refine ⟨by rw [List.length_take]; omega, by have := h.2.1; omega, fun h0 => ?_⟩
  obtain ⟨ad, hA, hc⟩ := h.2.2 (by omega)
  exact ⟨ad, hA, fun j p hj => hc j p (by rw [List.getElem?_take] at hj; split at hj; exact hj; cases hj)⟩
theorem c_same_n {A B : Option Addr} {c d n : Nat} {a b : List S43} {w : World} (hna : n = a.length) (hnb : n = b.length) (hA : Kd.C k43 w A n a) (hc : n ≤ c) (hB : Kd.C k43 w B n b) (hd : n ≤ d) (ha : fewL a = true) (hb : fewL b = true) (v : Bool) (hv : v = true ↔ SameP a b) :
    Calls Try.prog 26 #[.slice A n c, .slice B n d] w fun e w' => e = .returned (.bool v) ∧ Below w.heap.size w w' := by
  subst hna
  have h2 : Kd.C k43 w B b.length b := by rw [hnb] at hB; exact hB
  have := c_same (c := c) (d := d) hA hc h2 (by omega) ha hb v hv
  rwa [← hnb] at this
theorem z43_K (w : World) : k43.K w z43 [.int .i64 0, .int .u64 0, .slice none 0 0, .int .i64 0] := k43_mk w z43 (A2 := none) (c2 := 0) (Nat.le_refl _) ⟨rfl, Nat.zero_le _, fun h => absurd h (Nat.lt_irrefl 0)⟩
theorem C_far {w wr : World} {A : Option Addr} {n : Nat} {l : List S43} (h : Kd.C k43 w A n l) (hb : Below w.heap.size w wr) : ReadsRow (k43.K w) (Kd.fixed k43 w).sz wr A n l :=
  ⟨h.1, h.2.1, fun h0 => by
    obtain ⟨ad, hA, hc⟩ := h.2.2 h0
    refine ⟨ad, hA, fun j p hj => ?_⟩
    obtain ⟨c, h1, h2, h3⟩ := hc j p hj
    exact ⟨c, h1, h2, fun i u hu => pw_cell_below hb (h3 i u hu)⟩⟩
theorem c_same_m {A B : Option Addr} {c d n : Nat} {a b : List S43} {w : World} (hna : n = a.length) (hA : Kd.C k43 w A n a) (hc : n ≤ c) (hB : Kd.C k43 w B b.length b) (hd : b.length ≤ d) (ha : fewL a = true) (hb : fewL b = true) (v : Bool) (hv : v = true ↔ SameP a b) :
    Calls Try.prog 26 #[.slice A n c, .slice B b.length d] w fun e w' => e = .returned (.bool v) ∧ Below w.heap.size w w' := by
  subst hna
  exact c_same hA hc hB hd ha hb v hv
set_option maxHeartbeats 8000000 in
set_option maxRecDepth 100000 in
theorem parts_walk (A B : Option Addr) (ca cb : Nat) (a b : List S43) (w : World) (hA : Kd.C k43 w A a.length a) (hca : a.length ≤ ca) (wa : wfL a) (hB0 : Kd.C k43 w B b.length b) (hcb : b.length ≤ cb) (wb : wfL b) :
    Calls Try.prog 11 #[.slice A a.length ca, .slice B b.length cb] w fun e w' => e = .returned (.bool true) ∧ Below w.heap.size w w' := by
  have HA := Aside0.mk hA
  have HBB := Aside0.mk hB0
  have HCA := Aside0.mk hca
  have HCB := Aside0.mk hcb
  have WA := Aside0.mk wa
  have WB := Aside0.mk wb
  clear hA hB0 hca hcb wa wb
  obtain ⟨fa, hfa⟩ : ∃ v, v = fewR a := ⟨_, rfl⟩
  obtain ⟨fb, hfb⟩ : ∃ v, v = fewR b := ⟨_, rfl⟩
  have FA := Aside0.mk hfa
  have FB := Aside0.mk hfb
  clear hfa hfb
  go_enter Try.func11, Try.ntmps11
  go_wp2_with fail
  refine (c_awake _).mono ?_
  rintro e w1 ⟨rfl, hb⟩
  have HB1 := Aside0.mk hb
  clear hb
  go_wp2_with fail
  refine (c_few (Kd.C_below HA.out HB1.out) HCA.out WA.out).mono ?_
  rw [← FA.out]
  rintro e w2 ⟨rfl, hb⟩
  have HB2 := Aside0.mk (below_step HB1.out hb)
  clear hb
  cases fa with
  | false =>
    go_wp2_with fail
    go_ret
    exact ⟨rfl, HB2.out⟩
  | true =>
    go_wp2_with fail
    refine (c_few (Kd.C_below HBB.out HB2.out) HCB.out WB.out).mono ?_
    rw [← FB.out]
    rintro e w3 ⟨rfl, hb⟩
    have HB3 := Aside0.mk (below_step HB2.out hb)
    clear hb
    cases fb with
    | false =>
      go_wp2_with fail
      go_ret
      exact ⟨rfl, HB3.out⟩
    | true =>
      have LA := Aside0.mk (fewR_L WA.out FA.out.symm)
      have LB := Aside0.mk (fewR_L WB.out FB.out.symm)
      have hla : a.length ≤ 60 := fewR_len FA.out.symm
      have hlb : b.length ≤ 60 := fewR_len FB.out.symm
      by_cases hab : a.length = b.length
      · have HAB := Aside0.mk hab
        obtain ⟨n, hn⟩ : ∃ n, n = a.length := ⟨_, rfl⟩
        have hnb : n = b.length := by omega
        have HNA := Aside0.mk hn
        have HNB := Aside0.mk hnb
        have hn60 : n ≤ 60 := by omega
        have HA2 := Aside0.mk (show Kd.C k43 w A n a by rw [HNA.out]; exact HA.out)
        have HBB2 := Aside0.mk (show Kd.C k43 w B n b by rw [HNB.out]; exact HBB.out)
        have hcan : n ≤ ca := by have := HCA.out; omega
        have hcbn : n ≤ cb := by have := HCB.out; omega
        rw [← hn, ← hnb]
        clear hab hn hnb hla hlb
        go_wp2
        go_loopw [7, 8] (fun lv iv wr => ∃ (k : Nat) (last : Bool), k ≤ n + 1 ∧ iv = .int .i64 k ∧ lv = .bool last ∧ Aside0 (last = true ↔ k = 0 ∨ SameP (a.take (k - 1)) (b.take (k - 1))) ∧ Aside0 (Below w.heap.size w wr)) (fun lv iv _ => n + 1 - (intOf iv).toNat)
        case atStart => exact ⟨0, true, Nat.zero_le _, rfl, rfl, ⟨⟨fun _ => .inl rfl, fun _ => rfl⟩⟩, HB3⟩
        case round =>
          obtain ⟨k, last, hk, rfl, rfl, hL, hB⟩ := hrel
          clear HB3
          by_cases hlt : k ≤ n
          · have hin : 0 ≤ (k : Int) ∧ (k : Int) ≤ (n : Int) := by omega
            have hin1 : (k : Int) ≤ (n : Int) := by omega
            have hin2 : (k : Int) ≤ (ca : Int) := by omega
            have hin3 : (k : Int) ≤ (cb : Int) := by omega
            have hin4 : 0 ≤ (k : Int) := by omega
            obtain ⟨v, hv⟩ : ∃ v, v = sameB (a.take k) (b.take k) := ⟨_, rfl⟩
            have HV := Aside0.mk hv
            clear hv
            have HCTA := Aside0.mk (C_take HA.out (show k ≤ a.length by have := HNA.out; omega))
            have HCTB := Aside0.mk (C_take HBB.out (show k ≤ b.length by have := HNB.out; omega))
            have hnext : (v = true ↔ k + 1 = 0 ∨ SameP (a.take (k + 1 - 1)) (b.take (k + 1 - 1))) := by
              rw [HV.out, sameB_iff, Nat.add_sub_cancel]
              exact ⟨.inr, fun h => h.resolve_left (by omega)⟩
            have HN := Aside0.mk hnext
            have hgood : v = true → last = true := fun h => by
              rw [HV.out, sameB_iff] at h
              rw [hL.out]
              by_cases c : k = 0
              · exact .inl c
              · exact .inr (same_take HAB.out (by omega) (by have := HNA.out; omega) h)
            have hzero : k = 0 → v = true := fun h => by
              subst h
              rw [HV.out, sameB_iff, List.take_zero, List.take_zero]
              exact SameP.refl _
            have HG := Aside0.mk hgood
            have HZ := Aside0.mk hzero
            clear hnext hgood hzero
            go_wp2
            go_region_held3 (fun w' => Below wr.heap.size wr w')
              (first | assumption | exact below_drew (Below.refl _ _) | exact below_step (below_drew (Below.refl _ _)) hb5)
              ((go_at_call 26; (with_reducible refine (c_same_n (n := k) (by rw [List.length_take]; have := HNA.out; omega) (by rw [List.length_take]; have := HNB.out; omega) (Kd.C_below HCTA.out (below_step hB.out (below_drew (Below.refl _ _)))) (by omega) (Kd.C_below HCTB.out (below_step hB.out (below_drew (Below.refl _ _)))) (by omega) (few_take LA.out k) (few_take LB.out k) v (by rw [HV.out]; exact sameB_iff)).mono ?_); rintro e w5 ⟨rfl, hb5⟩))
            rename_i hHeld
            have HB5 := Aside0.mk (below_step hB.out hHeld)
            clear hHeld
            cases v with
            | true =>
              have hlast : last = true := HG.out rfl
              subst hlast
              cases hk0 : ((k : Int) == 0) with
              | true =>
                go_wp2
                go_roundw
                case rel => exact ⟨k + 1, true, by omega, by go_num, rfl, HN, HB5⟩
                case measure => simp [intOf]; omega
              | false =>
                go_wp2
                go_roundw
                case rel => exact ⟨k + 1, true, by omega, by go_num, rfl, HN, HB5⟩
                case measure => simp [intOf]; omega
            | false =>
              have hk0 : ((k : Int) == 0) = false := by
                rw [beq_eq_false_iff_ne]; intro h
                have := HZ.out (by omega); cases this
              go_wp2
              go_roundw
              case rel => exact ⟨k + 1, false, by omega, by go_num, rfl, HN, HB5⟩
              case measure => simp [intOf]; omega
          · have hge : ¬ (k : Int) ≤ (n : Int) := by omega
            obtain ⟨v, hv⟩ : ∃ v, v = sameB a b := ⟨_, rfl⟩
            have hlv : last = v := by
              have hk1 : k = n + 1 := by omega
              have := hL.out
              rw [hk1, Nat.add_sub_cancel, List.take_of_length_le (by have := HNA.out; omega), List.take_of_length_le (by have := HNB.out; omega)] at this
              rw [Bool.eq_iff_iff, this, hv, sameB_iff]
              exact ⟨fun h => h.resolve_left (by omega), .inr⟩
            subst hlv
            have HV := Aside0.mk hv
            clear hv
            go_wp2_with fail
            refine (c_same_n HNA.out HNB.out (Kd.C_below HA2.out hB.out) hcan (Kd.C_below HBB2.out hB.out) hcbn LA.out LB.out last (by rw [HV.out]; exact sameB_iff)).mono ?_
            rintro e w5 ⟨rfl, hb⟩
            have HB5 := Aside0.mk (below_step hB.out hb)
            clear hb
            go_wp2_with (first
              | (at_builtin; refine gate_guard (by rfl) ?_; dsimp only; refine Kd.R_append_rows (w0 := w) (Kd.fixed k43 w) (Rr := k43.K w) w.heap.size rfl _ _ 35 43 _ 48 rfl Try.underlying35 info43 rfl (show 0 < 4 by decide) (by decide) (.slice (some ⟨w5.heap.size, 0, none⟩) 0 0) [] b B n cb (fun _ => True) (fun _ => False) rfl rfl (show (Kd.fixed k43 w).R 43 (w5.alloc (.cells #[] 43)) w.heap.size (fun _ => True) (.slice (some ⟨w5.heap.size, 0, none⟩) 0 0) [] from ⟨fun _ _ => trivial, [], World.ownsRow_made w5 #[] 0 HB5.out.size (by simp [maxLen]) rfl, Reps.none _ _⟩) (C_far HBB2.out (below_alloc HB5.out _)) (fun _ _ h => h) (fun _ h => h.elim) (fun _ _ => trivial) (below_alloc HB5.out _) (by have := HB5.out.size; simp; omega) (by simp; omega) ?_; intro v6 w6 hR6 hB6 hg6 hat6; rw [List.nil_append] at hR6; obtain ⟨A6, c6, rfl⟩ := Kd.R_slice hR6; have HR6 := Aside0.mk hR6; have HB6 := Aside0.mk hB6; clear hR6 hB6 hg6 hat6)
              | (at_builtin; refine gate_guard (by rfl) ?_; dsimp only; refine Kd.R_append (Kd.fixed k43 w) (w0 := w) w.heap.size rfl _ _ 35 43 _ 48 rfl Try.underlying35 info43 rfl (show 0 < 4 by decide) (by decide) (.slice A6 b.length c6) b z43 [.int .i64 0, .int .u64 0, .slice none 0 0, .int .i64 0] (fun _ => True) (fun _ => False) rfl (by first | rfl | (go_simp; done) | (simp; done)) (z43_K w) (fun _ h => h.elim) (fun _ _ => trivial) HR6.out HB6.out HB6.out.size (by have := HNB.out; omega) ?_; intro v7 w7 hR7 hB7 hg7 hat7; obtain ⟨bz, hbz⟩ : ∃ bz, bz = b ++ [z43] := ⟨_, rfl⟩; rw [← hbz] at hR7; obtain ⟨A7, c7, e7, hc7, hC7⟩ := fixed_reads hR7 hB7; subst e7; have HBZ := Aside0.mk hbz; have HC7 := Aside0.mk hC7; have HCC7 := Aside0.mk hc7; have HB7 := Aside0.mk hB7; clear hR7 hB7 hg7 hat7 hbz hc7 hC7)
              | (go_at_call 26; (with_reducible refine (c_same_m HNA.out (Kd.C_below HA2.out HB7.out) hcan HC7.out HCC7.out LA.out (by rw [HBZ.out]; exact few_snoc LB.out (by have := HNB.out; omega)) false ⟨fun h => (by cases h), fun h => absurd h.len (by rw [HBZ.out]; simp; have := HNA.out; have := HNB.out; omega)⟩).mono ?_); rintro e w8 ⟨rfl, hb8⟩; have HB8 := Aside0.mk (below_step HB7.out hb8); clear hb8))
            go_ret
            exact ⟨by simp, HB8.out⟩
      · have hab2 : ((a.length : Int) != (b.length : Int)) = true := by simp; omega
        clear hab
        go_wp2_with fail
        go_ret
        exact ⟨rfl, HB3.out⟩
end Go.Proofs.Ytabmmdpioennfaa.Re
