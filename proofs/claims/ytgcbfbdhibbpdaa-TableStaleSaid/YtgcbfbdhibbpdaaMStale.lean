/- TableStale, walked by hand: a handle that was dropped is never live again, however its slot is used; no two live handles are the same. -/
import Derived.Test.YtgcbfbdhibbpdaaMStale0
import Derived.Test.YtgcbfbdhibbpdaaMActs
import Derived.Test.YtgcbfbdhibbpdaaMAwake
set_option linter.unusedVariables false
set_option linter.unusedSimpArgs false
namespace Go.Proofs.Ytgcbfbdhibbpdaa.Tb.St
open Go.ChangeShapes Go.RowKit Go.Proofs.YtgcbfbdhibbpdaaW.PrintWords Go.Proofs.YtgcbfbdhibbpdaaW.PrintLast Go.Proofs.YtgcbfbdhibbpdaaW.PrintMore
attribute [local go_sem] max2_int min2_int
set_option maxRecDepth 10000 in
set_option maxHeartbeats 16000000 in
theorem stale_walk (A : Option Addr) (c : Nat) (acts : List Act4) (w : World) (hC : ActC w A acts) (hwf : ∀ q ∈ acts, q.ok) :
    Calls Try.prog 4 #[.slice A acts.length c] w fun e w' => e = .returned (.bool true) ∧ Below w.heap.size w w' := by
  have HC := Aside0.mk hC
  have HWF := Aside0.mk hwf
  obtain ⟨base, hbs⟩ : ∃ b, b = w.heap.size := ⟨_, rfl⟩
  have HBA := Aside0.mk (Nat.le_of_eq hbs)
  have HBE := Aside0.mk hbs
  clear hbs hC hwf
  by_cases hlen : 80 < acts.length
  · have h80 : (80 : Int) < (acts.length : Int) := by omega
    go_enter Try.func4, Try.ntmps4
    go_wp2_with fail
    refine (awake_calls w).mono ?_
    rintro e w1 ⟨rfl, hb1⟩
    have HB1 := Aside0.mk hb1
    clear hb1
    go_wp2_with fail
    go_ret
    exact ⟨rfl, HB1.out⟩
  · have h80 : ¬ (80 : Int) < (acts.length : Int) := by omega
    go_enter Try.func4, Try.ntmps4
    go_wp2_with fail
    refine (awake_calls w).mono ?_
    rintro e w1 ⟨rfl, hb1⟩
    have HB1 := Aside0.mk hb1
    clear hb1
    go_wp2_with fail
    refine (new_calls 3 w1 base (tg own0 0) (Nat.le_trans HBA.out HB1.out.size) (fun _ _ => rfl)).mono ?_
    rintro e w2 ⟨rfl, hT2, hF2⟩
    obtain ⟨g, hgw⟩ : ∃ g, g = w1.heap.size := ⟨_, rfl⟩
    rw [← hgw] at hT2
    rw [← hgw]
    have HT2 := Aside0.mk hT2
    have HB2 := Aside0.mk (show Below base w w2 from (HB1.out.mono HBA.out).trans hF2.b)
    clear hT2 hF2 hgw HB1
    go_wp2_with fail
    go_loopw [5, 6, 7] (fun vl vs i wr => ∃ (q : Nat) (sl : List S85) (fr live stale : List Int) (own : Nat → Nat), q ≤ acts.length ∧ i = .int .i64 q ∧ Aside0 (Inv q sl fr live stale) ∧ Aside0 (TB wr base (tg own 0) g 3 sl fr) ∧ Aside0 ((Kd.int .u64).R 27 wr base (tg own 1) vl live) ∧ Aside0 ((Kd.int .u64).R 27 wr base (tg own 2) vs stale) ∧ Aside0 (Below base w wr)) (fun _ _ i _ => acts.length - (intOf i).toNat)
    case atStart => exact ⟨0, [], [], [], [], own0, Nat.zero_le _, rfl, ⟨Inv.start⟩, HT2, ⟨Kd.R_nil _ _ _ _ _⟩, ⟨Kd.R_nil _ _ _ _ _⟩, HB2⟩
    case round =>
      clear HT2 HB2
      obtain ⟨q, sl, fr, live, stale, own, hq, rfl, hI, hT, hV, hW, hB⟩ := hrel
      obtain ⟨Al, cl, hv⟩ := Kd.R_slice hV.out
      subst hv
      obtain ⟨As, cs, hv⟩ := Kd.R_slice hW.out
      subst hv
      by_cases hlt : q < acts.length
      · obtain ⟨ad, hA, hcell⟩ := HC.out (by omega)
        subst hA
        obtain ⟨e0, e1, _, _⟩ := hcell q _ (List.getElem?_eq_getElem hlt)
        have hok := HWF.out _ (List.getElem_mem hlt)
        obtain ⟨a, ha⟩ : ∃ a, a = acts[q] := ⟨_, rfl⟩
        rw [← ha] at e0 e1 hok
        have hblt := World.block_lt_of_cell? w _ e0
        have E0 := Aside0.mk e0
        have E1 := Aside0.mk e1
        replace e0 := (hB.out.cell (by rw [HBE.out]; exact hblt)).trans e0
        replace e1 := (hB.out.cell (p := ⟨(ad.add (q * 4)).block, (ad.add (q * 4)).off + 1, none⟩) (by rw [HBE.out]; exact hblt)).trans e1
        have hin1 : 0 ≤ (q : Int) ∧ (q : Int) < (acts.length : Int) := by omega
        have hin2 : (q : Int) < (acts.length : Int) := by omega
        have HBL := Aside0.mk hblt
        have hop := hok.1
        have hwh := hok.2.1
        obtain ⟨op, hopp⟩ : ∃ x, x = a.op := ⟨_, rfl⟩
        obtain ⟨wh, hwhh⟩ : ∃ x, x = a.wh := ⟨_, rfl⟩
        rw [← hopp] at e0 hop E0
        rw [← hwhh] at e1 hwh E1
        clear hcell ha hblt hok hopp hwhh
        have hq1 : q + 1 ≤ 80 := by omega
        by_cases d0 : op = 0
        · subst d0
          have HA := Aside0.mk (add_own hT.out hI.out.good (by omega) sx (Nat.le_trans HBA.out hB.out.size))
          have HI2 := Aside0.mk (hI.out.add hq1)
          have HLL := Aside0.mk hI.out.llen
          have hll : live.length ≤ 80 := by have := hI.out.llen; omega
          obtain ⟨hnew, hhx⟩ : ∃ x, x = pk 3 (addI (sk sl) fr) (addG (sk sl) fr) := ⟨_, rfl⟩
          rw [← hhx] at HA HI2
          have HNE := Aside0.mk (show ∀ x ∈ live, ¬ x = hnew from fun x hx e => by
            have h1 := (hI.out.lv x hx).2.2
            rw [e, hhx, add_not_live hI.out.good (by decide)] at h1
            exact absurd h1 (by decide))
          clear hhx
          unfold sx at HA
          go_wp2_with fail
          refine HA.out.mono ?_ -- add
          rintro e w3 ⟨rfl, hT3, hF3⟩
          have HT3 := Aside0.mk hT3
          have HV3 := Aside0.mk (R_pass hV.out hF3 (by decide))
          have HW3 := Aside0.mk (R_pass hW.out hF3 (by decide))
          have HB3 := Aside0.mk (hB.out.trans hF3.b)
          clear hT3 hF3 HA
          go_wp2_with fail
          go_loop [9] (fun i => ∃ j : Nat, j ≤ live.length ∧ i = .int .i64 j) (fun i => live.length - (intOf i).toNat)
          case atStart => exact ⟨0, Nat.zero_le _, rfl⟩
          case round =>
            obtain ⟨j, hj, rfl⟩ := hrel
            by_cases hjl : j < live.length
            · obtain ⟨lb, lc, he, hcx, _⟩ := row_at HV3.out hjl
              simp only [Value.slice.injEq, true_and] at he
              obtain ⟨he1, he2⟩ := he
              subst he1 he2
              obtain ⟨x, hx⟩ : ∃ x, x = live.getD j 0 := ⟨_, rfl⟩
              have hmem : x ∈ live := by rw [hx, List.getD_eq_getElem?_getD, List.getElem?_eq_getElem hjl]; exact List.getElem_mem hjl
              rw [← hx] at hcx
              have hne : (x == hnew) = false := by simpa using HNE.out x hmem
              have hj1 : 0 ≤ (j : Int) ∧ (j : Int) < (live.length : Int) := by omega
              have hj2 : (j : Int) < (live.length : Int) := by omega
              clear hx hmem
              go_wp2
              go_round
              case rel => exact ⟨j + 1, by omega, by go_num⟩
              case measure => simp [intOf]; omega
            · have hnj : ¬ (j : Int) < (live.length : Int) := by omega
              go_wp2_with (at_builtin; refine app_own (Kd.int .u64) base rfl _ _ 26 27 _ 8 rfl Try.underlying26 info27 rfl (show 0 < 1 by decide) (by decide) (.slice Al live.length cl) live hnew [.int .u64 hnew] (up own wr.heap.size 0) 1 rfl (by first | rfl | (go_simp; done) | (simp; done)) rfl HV3.out (Nat.le_trans HBA.out HB3.out.size) (by have := HLL.out; omega) ?_; intro v1 w6 hR6 hF6; have e6 := ((HB3.out.trans hF6.b).cell (by rw [HBE.out]; exact HBL.out)).trans E0.out; have HR6 := Aside0.mk hR6; have HF6 := Aside0.mk hF6; clear hR6 hF6)
              have HT2 := Aside0.mk (TB_pass HT3.out HF6.out (by decide))
              have HV2 := HR6
              have HW2 := Aside0.mk (R_pass HW3.out HF6.out (by decide))
              have HB2 := Aside0.mk (HB3.out.trans HF6.out.b)
              obtain ⟨own2, hown2⟩ : ∃ o, o = up (up own wr.heap.size 0) w3.heap.size 1 := ⟨_, rfl⟩
              obtain ⟨sl2, hsl2⟩ : ∃ o, o = addL sl fr sx := ⟨_, rfl⟩
              obtain ⟨fr2, hfr2⟩ : ∃ o, o = fr.dropLast := ⟨_, rfl⟩
              obtain ⟨live2, hlive2⟩ : ∃ o, o = live ++ [hnew] := ⟨_, rfl⟩
              obtain ⟨stale2, hstale2⟩ : ∃ o, o = stale := ⟨_, rfl⟩
              rw [← hown2] at HT2 HV2 HW2
              rw [show addL sl fr ⟨#[120]⟩ = sl2 from hsl2.symm, ← hfr2] at HT2
              rw [← hsl2, ← hfr2, ← hlive2, ← hstale2] at HI2
              rw [← hlive2] at HV2
              rw [← hstale2] at HW2 ⊢
              obtain ⟨Al2, cl2, hv⟩ := Kd.R_slice HV2.out
              subst hv
              obtain ⟨W2, hW2⟩ : ∃ W2 : World, W2 = w6 := ⟨_, rfl⟩
              subst hW2
              clear hown2 hsl2 hfr2 hlive2 hstale2 e6 HF6 HR6 HT3 HV3 HW3 HB3 hV hW hT hB
              have hl2 : live2.length ≤ 80 := by have := HI2.out.llen; omega
              have hs2 : stale2.length ≤ 80 := by have := HI2.out.slen; omega
              go_wp2_with fail
              go_loopw [12] (fun i wr => ∃ j : Nat, j ≤ stale2.length ∧ i = .int .i64 j ∧ Aside0 (Below W2.heap.size W2 wr)) (fun i _ => stale2.length - (intOf i).toNat)
              case atStart => exact ⟨0, Nat.zero_le _, rfl, ⟨Below.refl _ _⟩⟩
              case round =>
                obtain ⟨j, hj, rfl, hB3⟩ := hrel
                have HT3 := Aside0.mk (HT2.out.below hB3.out)
                have HV3 := Aside0.mk (Kd.R_below HV2.out hB3.out)
                have HW3 := Aside0.mk (Kd.R_below HW2.out hB3.out)
                by_cases hjl : j < stale2.length
                · obtain ⟨sb, sc, he, hcx, _⟩ := row_at HW3.out hjl
                  simp only [Value.slice.injEq, true_and] at he
                  obtain ⟨he1, he2⟩ := he
                  subst he1 he2
                  obtain ⟨x, hx⟩ : ∃ x, x = stale2.getD j 0 := ⟨_, rfl⟩
                  have hmem : x ∈ stale2 := by rw [hx, List.getD_eq_getElem?_getD, List.getElem?_eq_getElem hjl]; exact List.getElem_mem hjl
                  rw [← hx] at hcx
                  have hnl := HI2.out.not_live hmem
                  have HNL := Aside0.mk hnl
                  have hj1 : 0 ≤ (j : Int) ∧ (j : Int) < (stale2.length : Int) := by omega
                  have hj2 : (j : Int) < (stale2.length : Int) := by omega
                  clear hx hmem hnl
                  go_wp2_with fail
                  refine (get_not HT3.out x HNL.out.1 HNL.out.2.1 HNL.out.2.2).mono ?_
                  rintro e w4 ⟨rfl, hb4⟩
                  have HB4 := Aside0.mk hb4
                  replace hcx := pw_cell_below hb4 hcx
                  clear hb4
                  go_wp2_with fail
                  refine (set_not (HT3.out.below HB4.out) x ⟨#[121]⟩ HNL.out.1 HNL.out.2.1 HNL.out.2.2).mono ?_
                  rintro e w5 ⟨rfl, hb5⟩
                  have HB5 := Aside0.mk hb5
                  replace hcx := pw_cell_below hb5 hcx
                  clear hb5
                  go_wp2_with fail
                  refine (drop_not ((HT3.out.below HB4.out).below HB5.out) x HNL.out.1 HNL.out.2.1 HNL.out.2.2).mono ?_
                  rintro e w6 ⟨rfl, hb6⟩
                  have HB6 := Aside0.mk hb6
                  clear hb6 hcx
                  go_wp2
                  go_roundw
                  case rel => exact ⟨j + 1, by omega, by go_num, ⟨below_step (below_step (below_step hB3.out HB4.out) HB5.out) HB6.out⟩⟩
                  case measure => simp [intOf]; omega
                · have hnj : ¬ (j : Int) < (stale2.length : Int) := by omega
                  obtain ⟨W3, hW3⟩ : ∃ W3 : World, W3 = wr := ⟨_, rfl⟩
                  subst hW3
                  go_wp2_with fail
                  go_loopw [15] (fun i wr => ∃ j : Nat, j ≤ live2.length ∧ i = .int .i64 j ∧ Aside0 (Below W3.heap.size W3 wr)) (fun i _ => live2.length - (intOf i).toNat)
                  case atStart => exact ⟨0, Nat.zero_le _, rfl, ⟨Below.refl _ _⟩⟩
                  case round =>
                    obtain ⟨k, hk, rfl, hB7⟩ := hrel
                    have HT7 := Aside0.mk (HT3.out.below hB7.out)
                    by_cases hkl : k < live2.length
                    · obtain ⟨sb, sc, he, hcx, _⟩ := row_at (Kd.R_below HV3.out hB7.out) hkl
                      simp only [Value.slice.injEq, true_and] at he
                      obtain ⟨he1, he2⟩ := he
                      subst he1 he2
                      obtain ⟨x, hx⟩ : ∃ x, x = live2.getD k 0 := ⟨_, rfl⟩
                      have hmem : x ∈ live2 := by rw [hx, List.getD_eq_getElem?_getD, List.getElem?_eq_getElem hkl]; exact List.getElem_mem hkl
                      rw [← hx] at hcx
                      obtain ⟨l1, l2, l3⟩ := HI2.out.lv x hmem
                      have hG := get_own HT7.out x l1 l2 l3
                      rw [HI2.out.val_live l3] at hG
                      have HG := Aside0.mk hG
                      have hk1 : 0 ≤ (k : Int) ∧ (k : Int) < (live2.length : Int) := by omega
                      have hk2 : (k : Int) < (live2.length : Int) := by omega
                      clear hx hmem l1 l2 l3 hG
                      go_wp2_with fail
                      refine HG.out.mono ?_
                      rintro e w8 ⟨rfl, hb8⟩
                      have HB8 := Aside0.mk hb8
                      clear hb8 hcx
                      go_wp2
                      go_roundw
                      case rel => exact ⟨k + 1, by omega, by go_num, ⟨below_step hB7.out HB8.out⟩⟩
                      case measure => simp [intOf]; omega
                    · have hnk : ¬ (k : Int) < (live2.length : Int) := by omega
                      go_wp2
                      go_roundw
                      case rel => exact ⟨q + 1, sl2, fr2, live2, stale2, own2, by omega, by go_num, HI2, HT7, ⟨Kd.R_below HV3.out hB7.out⟩, ⟨Kd.R_below HW3.out hB7.out⟩, ⟨HB2.out.trans ((below_step hB3.out hB7.out).mono (Nat.le_trans HBA.out HB2.out.size))⟩⟩
                      case measure => simp [intOf]; omega
        · by_cases d3 : op = 3
          · subst d3
            by_cases d5 : 0 < live.length
            · have d6 : (0 : Int) < (live.length : Int) := by omega
              have hll : live.length ≤ 80 := by have := hI.out.llen; omega
              obtain ⟨k, hk⟩ : ∃ k : Nat, wh % (live.length : Int) = k := ⟨(wh % (live.length : Int)).toNat, by have := Int.emod_nonneg wh (show (live.length : Int) ≠ 0 by omega); omega⟩
              have hkl : k < live.length := by have := Int.emod_lt_of_pos wh (show (0 : Int) < live.length by omega); omega
              have hk1 : 0 ≤ (k : Int) ∧ (k : Int) < (live.length : Int) := by omega
              have hk2 : (k : Int) < (live.length : Int) := by omega
              obtain ⟨lb, lc, he, hc1, A2, c2, hc2, hcC⟩ := cuts hV.out hkl info27
              simp only [Value.slice.injEq, true_and] at he
              obtain ⟨he1, he2⟩ := he
              subst he1 he2
              obtain ⟨lb2, lc2, he, hcx, _⟩ := row_at hV.out hkl
              simp only [Value.slice.injEq, Option.some.injEq, Addr.mk.injEq] at he
              have he1 := he.1.1
              subst he1
              obtain ⟨x, hx⟩ : ∃ x, x = live.getD k 0 := ⟨_, rfl⟩
              have hsp := mid_split live hkl
              rw [← hx] at hcx hsp
              have hI9 := hI.out
              rw [hsp] at hI9
              have HI2 := Aside0.mk (hI9.drop hq1)
              have hlx := hI9.lv x (by simp)
              have HLX := Aside0.mk hlx
              have HSL := Aside0.mk (show stale.length ≤ 80 by have := hI.out.slen; omega)
              have HCC := Aside0.mk hcC
              have HKK := Aside0.mk hk
              have HX := Aside0.mk hx
              clear hx hsp hI9 hlx he hcC
              go_wp2_with (at_builtin; refine app_own (Kd.int .u64) base rfl _ _ 26 27 _ 8 rfl Try.underlying26 info27 rfl (show 0 < 1 by decide) (by decide) (.slice As stale.length cs) stale x [.int .u64 x] own 2 rfl (by first | rfl | (go_simp; done) | (simp; done)) rfl hW.out (Nat.le_trans HBA.out hB.out.size) (by have := HSL.out; omega) ?_; intro v1 w6 hR6 hF6; obtain ⟨As2, cs2, hv1⟩ := Kd.R_slice hR6; subst hv1; have hV6 := R_pass hV.out hF6 (by decide); obtain ⟨lb2, lc2, he, hcx6, _⟩ := row_at hV6 hkl; simp only [Value.slice.injEq, Option.some.injEq, Addr.mk.injEq] at he; have he1 := he.1.1; subst he1; rw [← HX.out] at hcx6; have HV6 := Aside0.mk hV6; have HR6 := Aside0.mk hR6; have HF6 := Aside0.mk hF6; clear hR6 hF6 hV6 he)
              have HT6 := Aside0.mk (TB_pass hT.out HF6.out (by decide))
              have HB6 := Aside0.mk (hB.out.trans HF6.out.b)
              have HD := Aside0.mk (drop_own HT6.out hI.out.good x HLX.out.1 HLX.out.2.1 (Nat.le_trans HBA.out HB6.out.size) HLX.out.2.2)
              with_reducible refine HD.out.mono ?_
              rintro e w7 ⟨rfl, hT7, hF7⟩
              have HT7 := Aside0.mk hT7
              have hV7 := R_pass HV6.out hF7 (by decide)
              have HV7 := Aside0.mk hV7
              have HW7 := Aside0.mk (R_pass HR6.out hF7 (by decide))
              have HB7 := Aside0.mk (HB6.out.trans hF7.b)
              have HC7 := Aside0.mk (HCC.out w7 _ hV7)
              obtain ⟨own7, hown7⟩ : ∃ o, o = up (up own wr.heap.size 2) w6.heap.size 0 := ⟨_, rfl⟩
              rw [← hown7] at HT7 HV7 HW7
              clear hT7 hF7 HD hV7 hcx hcx6 hown7 HT6 HB6 HF6 HR6 HV6
              have HLD := Aside0.mk (show (live.take k).length = k by simp; omega)
              go_wp2_with (first | (at_builtin; refine app_row_new .u64 base rfl _ _ 26 27 (.int .u64 0) 8 rfl Try.underlying26 info27 rfl (by decide) (live.take k) (some ⟨lb, 0, none⟩) k cl own7 1 rfl rfl HC7.out.1 (Nat.le_trans HBA.out HB7.out.size) (by omega) ?_; intro v1 w8 hR8 hB8; obtain ⟨Al3, cl3, hv3⟩ := Kd.R_slice hR8; subst hv3; rw [HLD.out] at hR8 ⊢; have hV8 := R_stay (j := 1) HV7.out hB8; have HC8 := Aside0.mk (HCC.out w8 _ hV8); have HR8 := Aside0.mk hR8; have HB8 := Aside0.mk hB8; clear hR8 hB8 hV8) | (at_builtin; refine app_row_own .u64 base rfl _ _ 26 27 (.int .u64 0) 8 rfl Try.underlying26 info27 rfl (by decide) (.slice Al3 k cl3) (live.take k) (live.drop (k + 1)) A2 (live.length - (k + 1)) c2 (up own7 w7.heap.size 1) 1 rfl rfl HR8.out HC8.out.2 (Nat.le_trans HBA.out (Nat.le_trans HB7.out.size HB8.out.size)) (by rw [HLD.out]; omega) ?_; intro v1 w9 hR9 hF9; obtain ⟨live2, hlive2⟩ : ∃ o, o = live.take k ++ live.drop (k + 1) := ⟨_, rfl⟩; rw [← hlive2] at hR9; obtain ⟨Al2, cl2, hv4⟩ := Kd.R_slice hR9; subst hv4; have HLV2 := Aside0.mk hlive2; clear hlive2; have HR9 := Aside0.mk hR9; have HF9 := Aside0.mk hF9; clear hR9 hF9))
              have HT8 := Aside0.mk ((TB_up (j := 1) HT7.out).below HB8.out)
              have HW8 := Aside0.mk (R_stay (j := 1) HW7.out HB8.out)
              have HT2 := Aside0.mk (TB_pass HT8.out HF9.out (by decide))
              have HW2 := Aside0.mk (R_pass HW8.out HF9.out (by decide))
              have HV2 := HR9
              have HB2 := Aside0.mk ((HB7.out.trans (HB8.out.mono (Nat.le_trans HBA.out HB7.out.size))).trans HF9.out.b)
              obtain ⟨own2, hown2⟩ : ∃ o, o = up (up own7 w7.heap.size 1) w8.heap.size 1 := ⟨_, rfl⟩
              obtain ⟨sl2, hsl2⟩ : ∃ o, o = dropL sl (ixn x) := ⟨_, rfl⟩
              obtain ⟨fr2, hfr2⟩ : ∃ o, o = fr ++ [(ixn x : Int)] := ⟨_, rfl⟩
              obtain ⟨stale2, hstale2⟩ : ∃ o, o = stale ++ [x] := ⟨_, rfl⟩
              have hsll : stale.length + 1 = stale2.length := by rw [hstale2]; simp
              rw [← hown2] at HT2 HV2 HW2
              rw [← hsl2, ← hfr2] at HT2
              rw [← hsl2, ← hfr2, ← HLV2.out, ← hstale2] at HI2
              rw [← hstale2] at HW2
              rw [hsll]
              obtain ⟨W2, hW2⟩ : ∃ W2 : World, W2 = w9 := ⟨_, rfl⟩
              subst hW2
              clear hown2 hsl2 hfr2 hstale2 hsll HF9 HR9 HT8 HW8 HB8 HT7 HV7 HW7 HB7 HC7 hV hW hT hB hc1 hc2 hk hk1 hk2
              have hl2 : live2.length ≤ 80 := by have := HI2.out.llen; omega
              have hs2 : stale2.length ≤ 80 := by have := HI2.out.slen; omega
              go_wp2_with fail
              go_loopw [12] (fun i wr => ∃ j : Nat, j ≤ stale2.length ∧ i = .int .i64 j ∧ Aside0 (Below W2.heap.size W2 wr)) (fun i _ => stale2.length - (intOf i).toNat)
              case atStart => exact ⟨0, Nat.zero_le _, rfl, ⟨Below.refl _ _⟩⟩
              case round =>
                obtain ⟨j, hj, rfl, hB3⟩ := hrel
                have HT3 := Aside0.mk (HT2.out.below hB3.out)
                have HV3 := Aside0.mk (Kd.R_below HV2.out hB3.out)
                have HW3 := Aside0.mk (Kd.R_below HW2.out hB3.out)
                by_cases hjl : j < stale2.length
                · obtain ⟨sb, sc, he, hcx, _⟩ := row_at HW3.out hjl
                  simp only [Value.slice.injEq, true_and] at he
                  obtain ⟨he1, he2⟩ := he
                  subst he1 he2
                  obtain ⟨x, hx⟩ : ∃ x, x = stale2.getD j 0 := ⟨_, rfl⟩
                  have hmem : x ∈ stale2 := by rw [hx, List.getD_eq_getElem?_getD, List.getElem?_eq_getElem hjl]; exact List.getElem_mem hjl
                  rw [← hx] at hcx
                  have hnl := HI2.out.not_live hmem
                  have HNL := Aside0.mk hnl
                  have hj1 : 0 ≤ (j : Int) ∧ (j : Int) < (stale2.length : Int) := by omega
                  have hj2 : (j : Int) < (stale2.length : Int) := by omega
                  clear hx hmem hnl
                  go_wp2_with fail
                  refine (get_not HT3.out x HNL.out.1 HNL.out.2.1 HNL.out.2.2).mono ?_
                  rintro e w4 ⟨rfl, hb4⟩
                  have HB4 := Aside0.mk hb4
                  replace hcx := pw_cell_below hb4 hcx
                  clear hb4
                  go_wp2_with fail
                  refine (set_not (HT3.out.below HB4.out) x ⟨#[121]⟩ HNL.out.1 HNL.out.2.1 HNL.out.2.2).mono ?_
                  rintro e w5 ⟨rfl, hb5⟩
                  have HB5 := Aside0.mk hb5
                  replace hcx := pw_cell_below hb5 hcx
                  clear hb5
                  go_wp2_with fail
                  refine (drop_not ((HT3.out.below HB4.out).below HB5.out) x HNL.out.1 HNL.out.2.1 HNL.out.2.2).mono ?_
                  rintro e w6 ⟨rfl, hb6⟩
                  have HB6 := Aside0.mk hb6
                  clear hb6 hcx
                  go_wp2
                  go_roundw
                  case rel => exact ⟨j + 1, by omega, by go_num, ⟨below_step (below_step (below_step hB3.out HB4.out) HB5.out) HB6.out⟩⟩
                  case measure => simp [intOf]; omega
                · have hnj : ¬ (j : Int) < (stale2.length : Int) := by omega
                  obtain ⟨W3, hW3⟩ : ∃ W3 : World, W3 = wr := ⟨_, rfl⟩
                  subst hW3
                  go_wp2_with fail
                  go_loopw [15] (fun i wr => ∃ j : Nat, j ≤ live2.length ∧ i = .int .i64 j ∧ Aside0 (Below W3.heap.size W3 wr)) (fun i _ => live2.length - (intOf i).toNat)
                  case atStart => exact ⟨0, Nat.zero_le _, rfl, ⟨Below.refl _ _⟩⟩
                  case round =>
                    obtain ⟨k, hk, rfl, hB7⟩ := hrel
                    have HT7 := Aside0.mk (HT3.out.below hB7.out)
                    by_cases hkl : k < live2.length
                    · obtain ⟨sb, sc, he, hcx, _⟩ := row_at (Kd.R_below HV3.out hB7.out) hkl
                      simp only [Value.slice.injEq, true_and] at he
                      obtain ⟨he1, he2⟩ := he
                      subst he1 he2
                      obtain ⟨x, hx⟩ : ∃ x, x = live2.getD k 0 := ⟨_, rfl⟩
                      have hmem : x ∈ live2 := by rw [hx, List.getD_eq_getElem?_getD, List.getElem?_eq_getElem hkl]; exact List.getElem_mem hkl
                      rw [← hx] at hcx
                      obtain ⟨l1, l2, l3⟩ := HI2.out.lv x hmem
                      have hG := get_own HT7.out x l1 l2 l3
                      rw [HI2.out.val_live l3] at hG
                      have HG := Aside0.mk hG
                      have hk1 : 0 ≤ (k : Int) ∧ (k : Int) < (live2.length : Int) := by omega
                      have hk2 : (k : Int) < (live2.length : Int) := by omega
                      clear hx hmem l1 l2 l3 hG
                      go_wp2_with fail
                      refine HG.out.mono ?_
                      rintro e w8 ⟨rfl, hb8⟩
                      have HB8 := Aside0.mk hb8
                      clear hb8 hcx
                      go_wp2
                      go_roundw
                      case rel => exact ⟨k + 1, by omega, by go_num, ⟨below_step hB7.out HB8.out⟩⟩
                      case measure => simp [intOf]; omega
                    · have hnk : ¬ (k : Int) < (live2.length : Int) := by omega
                      go_wp2
                      go_roundw
                      case rel => exact ⟨q + 1, sl2, fr2, live2, stale2, own2, by omega, by go_num, HI2, HT7, ⟨Kd.R_below HV3.out hB7.out⟩, ⟨Kd.R_below HW3.out hB7.out⟩, ⟨HB2.out.trans ((below_step hB3.out hB7.out).mono (Nat.le_trans HBA.out HB2.out.size))⟩⟩
                      case measure => simp [intOf]; omega
            · have d6 : ¬ (0 : Int) < (live.length : Int) := by omega
              have HI2 := Aside0.mk (hI.out.keep hq1)
              obtain ⟨live2, rfl⟩ : ∃ o : List Int, o = live := ⟨_, rfl⟩
              obtain ⟨stale2, rfl⟩ : ∃ o : List Int, o = stale := ⟨_, rfl⟩
              obtain ⟨sl2, rfl⟩ : ∃ o : List S85, o = sl := ⟨_, rfl⟩
              obtain ⟨fr2, rfl⟩ : ∃ o : List Int, o = fr := ⟨_, rfl⟩
              obtain ⟨own2, rfl⟩ : ∃ o : Nat → Nat, o = own := ⟨_, rfl⟩
              obtain ⟨W2, rfl⟩ : ∃ o : World, o = wr := ⟨_, rfl⟩
              obtain ⟨HT2, HV2, HW2, HB2⟩ : Aside0 (TB W2 base (tg own2 0) g 3 sl2 fr2) ∧ Aside0 ((Kd.int .u64).R 27 W2 base (tg own2 1) (.slice Al live2.length cl) live2) ∧ Aside0 ((Kd.int .u64).R 27 W2 base (tg own2 2) (.slice As stale2.length cs) stale2) ∧ Aside0 (Below base w W2) := ⟨hT, hV, hW, hB⟩
              clear hT hV hW hB hI
              have hl2 : live2.length ≤ 80 := by have := HI2.out.llen; omega
              have hs2 : stale2.length ≤ 80 := by have := HI2.out.slen; omega
              go_wp2_with fail
              go_loopw [12] (fun i wr => ∃ j : Nat, j ≤ stale2.length ∧ i = .int .i64 j ∧ Aside0 (Below W2.heap.size W2 wr)) (fun i _ => stale2.length - (intOf i).toNat)
              case atStart => exact ⟨0, Nat.zero_le _, rfl, ⟨Below.refl _ _⟩⟩
              case round =>
                obtain ⟨j, hj, rfl, hB3⟩ := hrel
                have HT3 := Aside0.mk (HT2.out.below hB3.out)
                have HV3 := Aside0.mk (Kd.R_below HV2.out hB3.out)
                have HW3 := Aside0.mk (Kd.R_below HW2.out hB3.out)
                by_cases hjl : j < stale2.length
                · obtain ⟨sb, sc, he, hcx, _⟩ := row_at HW3.out hjl
                  simp only [Value.slice.injEq, true_and] at he
                  obtain ⟨he1, he2⟩ := he
                  subst he1 he2
                  obtain ⟨x, hx⟩ : ∃ x, x = stale2.getD j 0 := ⟨_, rfl⟩
                  have hmem : x ∈ stale2 := by rw [hx, List.getD_eq_getElem?_getD, List.getElem?_eq_getElem hjl]; exact List.getElem_mem hjl
                  rw [← hx] at hcx
                  have hnl := HI2.out.not_live hmem
                  have HNL := Aside0.mk hnl
                  have hj1 : 0 ≤ (j : Int) ∧ (j : Int) < (stale2.length : Int) := by omega
                  have hj2 : (j : Int) < (stale2.length : Int) := by omega
                  clear hx hmem hnl
                  go_wp2_with fail
                  refine (get_not HT3.out x HNL.out.1 HNL.out.2.1 HNL.out.2.2).mono ?_
                  rintro e w4 ⟨rfl, hb4⟩
                  have HB4 := Aside0.mk hb4
                  replace hcx := pw_cell_below hb4 hcx
                  clear hb4
                  go_wp2_with fail
                  refine (set_not (HT3.out.below HB4.out) x ⟨#[121]⟩ HNL.out.1 HNL.out.2.1 HNL.out.2.2).mono ?_
                  rintro e w5 ⟨rfl, hb5⟩
                  have HB5 := Aside0.mk hb5
                  replace hcx := pw_cell_below hb5 hcx
                  clear hb5
                  go_wp2_with fail
                  refine (drop_not ((HT3.out.below HB4.out).below HB5.out) x HNL.out.1 HNL.out.2.1 HNL.out.2.2).mono ?_
                  rintro e w6 ⟨rfl, hb6⟩
                  have HB6 := Aside0.mk hb6
                  clear hb6 hcx
                  go_wp2
                  go_roundw
                  case rel => exact ⟨j + 1, by omega, by go_num, ⟨below_step (below_step (below_step hB3.out HB4.out) HB5.out) HB6.out⟩⟩
                  case measure => simp [intOf]; omega
                · have hnj : ¬ (j : Int) < (stale2.length : Int) := by omega
                  obtain ⟨W3, hW3⟩ : ∃ W3 : World, W3 = wr := ⟨_, rfl⟩
                  subst hW3
                  go_wp2_with fail
                  go_loopw [15] (fun i wr => ∃ j : Nat, j ≤ live2.length ∧ i = .int .i64 j ∧ Aside0 (Below W3.heap.size W3 wr)) (fun i _ => live2.length - (intOf i).toNat)
                  case atStart => exact ⟨0, Nat.zero_le _, rfl, ⟨Below.refl _ _⟩⟩
                  case round =>
                    obtain ⟨k, hk, rfl, hB7⟩ := hrel
                    have HT7 := Aside0.mk (HT3.out.below hB7.out)
                    by_cases hkl : k < live2.length
                    · obtain ⟨sb, sc, he, hcx, _⟩ := row_at (Kd.R_below HV3.out hB7.out) hkl
                      simp only [Value.slice.injEq, true_and] at he
                      obtain ⟨he1, he2⟩ := he
                      subst he1 he2
                      obtain ⟨x, hx⟩ : ∃ x, x = live2.getD k 0 := ⟨_, rfl⟩
                      have hmem : x ∈ live2 := by rw [hx, List.getD_eq_getElem?_getD, List.getElem?_eq_getElem hkl]; exact List.getElem_mem hkl
                      rw [← hx] at hcx
                      obtain ⟨l1, l2, l3⟩ := HI2.out.lv x hmem
                      have hG := get_own HT7.out x l1 l2 l3
                      rw [HI2.out.val_live l3] at hG
                      have HG := Aside0.mk hG
                      have hk1 : 0 ≤ (k : Int) ∧ (k : Int) < (live2.length : Int) := by omega
                      have hk2 : (k : Int) < (live2.length : Int) := by omega
                      clear hx hmem l1 l2 l3 hG
                      go_wp2_with fail
                      refine HG.out.mono ?_
                      rintro e w8 ⟨rfl, hb8⟩
                      have HB8 := Aside0.mk hb8
                      clear hb8 hcx
                      go_wp2
                      go_roundw
                      case rel => exact ⟨k + 1, by omega, by go_num, ⟨below_step hB7.out HB8.out⟩⟩
                      case measure => simp [intOf]; omega
                    · have hnk : ¬ (k : Int) < (live2.length : Int) := by omega
                      go_wp2
                      go_roundw
                      case rel => exact ⟨q + 1, sl2, fr2, live2, stale2, own2, by omega, by go_num, HI2, HT7, ⟨Kd.R_below HV3.out hB7.out⟩, ⟨Kd.R_below HW3.out hB7.out⟩, ⟨HB2.out.trans ((below_step hB3.out hB7.out).mono (Nat.le_trans HBA.out HB2.out.size))⟩⟩
                      case measure => simp [intOf]; omega
          · 
            have HI2 := Aside0.mk (hI.out.keep hq1)
            obtain ⟨live2, rfl⟩ : ∃ o : List Int, o = live := ⟨_, rfl⟩
            obtain ⟨stale2, rfl⟩ : ∃ o : List Int, o = stale := ⟨_, rfl⟩
            obtain ⟨sl2, rfl⟩ : ∃ o : List S85, o = sl := ⟨_, rfl⟩
            obtain ⟨fr2, rfl⟩ : ∃ o : List Int, o = fr := ⟨_, rfl⟩
            obtain ⟨own2, rfl⟩ : ∃ o : Nat → Nat, o = own := ⟨_, rfl⟩
            obtain ⟨W2, rfl⟩ : ∃ o : World, o = wr := ⟨_, rfl⟩
            obtain ⟨HT2, HV2, HW2, HB2⟩ : Aside0 (TB W2 base (tg own2 0) g 3 sl2 fr2) ∧ Aside0 ((Kd.int .u64).R 27 W2 base (tg own2 1) (.slice Al live2.length cl) live2) ∧ Aside0 ((Kd.int .u64).R 27 W2 base (tg own2 2) (.slice As stale2.length cs) stale2) ∧ Aside0 (Below base w W2) := ⟨hT, hV, hW, hB⟩
            clear hT hV hW hB hI
            have hl2 : live2.length ≤ 80 := by have := HI2.out.llen; omega
            have hs2 : stale2.length ≤ 80 := by have := HI2.out.slen; omega
            go_wp2_with fail
            go_loopw [12] (fun i wr => ∃ j : Nat, j ≤ stale2.length ∧ i = .int .i64 j ∧ Aside0 (Below W2.heap.size W2 wr)) (fun i _ => stale2.length - (intOf i).toNat)
            case atStart => exact ⟨0, Nat.zero_le _, rfl, ⟨Below.refl _ _⟩⟩
            case round =>
              obtain ⟨j, hj, rfl, hB3⟩ := hrel
              have HT3 := Aside0.mk (HT2.out.below hB3.out)
              have HV3 := Aside0.mk (Kd.R_below HV2.out hB3.out)
              have HW3 := Aside0.mk (Kd.R_below HW2.out hB3.out)
              by_cases hjl : j < stale2.length
              · obtain ⟨sb, sc, he, hcx, _⟩ := row_at HW3.out hjl
                simp only [Value.slice.injEq, true_and] at he
                obtain ⟨he1, he2⟩ := he
                subst he1 he2
                obtain ⟨x, hx⟩ : ∃ x, x = stale2.getD j 0 := ⟨_, rfl⟩
                have hmem : x ∈ stale2 := by rw [hx, List.getD_eq_getElem?_getD, List.getElem?_eq_getElem hjl]; exact List.getElem_mem hjl
                rw [← hx] at hcx
                have hnl := HI2.out.not_live hmem
                have HNL := Aside0.mk hnl
                have hj1 : 0 ≤ (j : Int) ∧ (j : Int) < (stale2.length : Int) := by omega
                have hj2 : (j : Int) < (stale2.length : Int) := by omega
                clear hx hmem hnl
                go_wp2_with fail
                refine (get_not HT3.out x HNL.out.1 HNL.out.2.1 HNL.out.2.2).mono ?_
                rintro e w4 ⟨rfl, hb4⟩
                have HB4 := Aside0.mk hb4
                replace hcx := pw_cell_below hb4 hcx
                clear hb4
                go_wp2_with fail
                refine (set_not (HT3.out.below HB4.out) x ⟨#[121]⟩ HNL.out.1 HNL.out.2.1 HNL.out.2.2).mono ?_
                rintro e w5 ⟨rfl, hb5⟩
                have HB5 := Aside0.mk hb5
                replace hcx := pw_cell_below hb5 hcx
                clear hb5
                go_wp2_with fail
                refine (drop_not ((HT3.out.below HB4.out).below HB5.out) x HNL.out.1 HNL.out.2.1 HNL.out.2.2).mono ?_
                rintro e w6 ⟨rfl, hb6⟩
                have HB6 := Aside0.mk hb6
                clear hb6 hcx
                go_wp2
                go_roundw
                case rel => exact ⟨j + 1, by omega, by go_num, ⟨below_step (below_step (below_step hB3.out HB4.out) HB5.out) HB6.out⟩⟩
                case measure => simp [intOf]; omega
              · have hnj : ¬ (j : Int) < (stale2.length : Int) := by omega
                obtain ⟨W3, hW3⟩ : ∃ W3 : World, W3 = wr := ⟨_, rfl⟩
                subst hW3
                go_wp2_with fail
                go_loopw [15] (fun i wr => ∃ j : Nat, j ≤ live2.length ∧ i = .int .i64 j ∧ Aside0 (Below W3.heap.size W3 wr)) (fun i _ => live2.length - (intOf i).toNat)
                case atStart => exact ⟨0, Nat.zero_le _, rfl, ⟨Below.refl _ _⟩⟩
                case round =>
                  obtain ⟨k, hk, rfl, hB7⟩ := hrel
                  have HT7 := Aside0.mk (HT3.out.below hB7.out)
                  by_cases hkl : k < live2.length
                  · obtain ⟨sb, sc, he, hcx, _⟩ := row_at (Kd.R_below HV3.out hB7.out) hkl
                    simp only [Value.slice.injEq, true_and] at he
                    obtain ⟨he1, he2⟩ := he
                    subst he1 he2
                    obtain ⟨x, hx⟩ : ∃ x, x = live2.getD k 0 := ⟨_, rfl⟩
                    have hmem : x ∈ live2 := by rw [hx, List.getD_eq_getElem?_getD, List.getElem?_eq_getElem hkl]; exact List.getElem_mem hkl
                    rw [← hx] at hcx
                    obtain ⟨l1, l2, l3⟩ := HI2.out.lv x hmem
                    have hG := get_own HT7.out x l1 l2 l3
                    rw [HI2.out.val_live l3] at hG
                    have HG := Aside0.mk hG
                    have hk1 : 0 ≤ (k : Int) ∧ (k : Int) < (live2.length : Int) := by omega
                    have hk2 : (k : Int) < (live2.length : Int) := by omega
                    clear hx hmem l1 l2 l3 hG
                    go_wp2_with fail
                    refine HG.out.mono ?_
                    rintro e w8 ⟨rfl, hb8⟩
                    have HB8 := Aside0.mk hb8
                    clear hb8 hcx
                    go_wp2
                    go_roundw
                    case rel => exact ⟨k + 1, by omega, by go_num, ⟨below_step hB7.out HB8.out⟩⟩
                    case measure => simp [intOf]; omega
                  · have hnk : ¬ (k : Int) < (live2.length : Int) := by omega
                    go_wp2
                    go_roundw
                    case rel => exact ⟨q + 1, sl2, fr2, live2, stale2, own2, by omega, by go_num, HI2, HT7, ⟨Kd.R_below HV3.out hB7.out⟩, ⟨Kd.R_below HW3.out hB7.out⟩, ⟨HB2.out.trans ((below_step hB3.out hB7.out).mono (Nat.le_trans HBA.out HB2.out.size))⟩⟩
                    case measure => simp [intOf]; omega
      · have hqe : q = acts.length := by omega
        have hnq : ¬ (q : Int) < (acts.length : Int) := by omega
        go_wp2_with fail
        refine (len_own hT.out).mono ?_
        rintro e w3 ⟨rfl, hb3⟩
        rw [hI.out.count]
        have HB3 := Aside0.mk (hB.out.trans (hb3.mono (Nat.le_trans HBA.out hB.out.size)))
        clear hb3
        go_wp2
        go_ret
        exact ⟨rfl, by rw [← HBE.out]; exact HB3.out⟩
end Go.Proofs.Ytgcbfbdhibbpdaa.Tb.St
