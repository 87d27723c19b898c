/- PagerunPlays, walked by hand: step by step as the document has it. -/
import Derived.Test.YtdkedgdieoojgaaMPlays1
set_option linter.unusedVariables false
set_option linter.unusedSimpArgs false
namespace Go.Proofs.Ytdkedgdieoojgaa.Rn
open Go.ChangeShapes Go.RowKit Go.Proofs.YtdkedgdieoojgaaW.PrintWords Go.Proofs.YtdkedgdieoojgaaW.PrintLast Go.Proofs.YtdkedgdieoojgaaW.PrintMore

set_option maxHeartbeats 16000000 in
set_option maxRecDepth 100000 in
theorem plays_walk (p : Int) (A : Option Addr) (c : Nat) (acts : List Act3) (w : World) (hC : ActC w A acts) (hwf : wfA acts) (hp : i64 p) :
    Calls Try.prog 5 #[.int .i64 p, .slice A acts.length c] w fun e w' => e = .returned (.bool true) ∧ Below w.heap.size w w' := by
  have HC := Aside0.mk hC
  have HWF := Aside0.mk hwf
  clear hC hwf
  by_cases hlen : 60 < acts.length
  · have h60 : (60 : Int) < (acts.length : Int) := by omega
    go_enter Try.func5, Try.ntmps5
    go_wp2_with fail
    refine (awake_calls _).mono ?_
    rintro e w1 ⟨rfl, hb⟩
    have HB1 := Aside0.mk hb
    clear hb
    go_wp2_with fail
    go_ret
    exact ⟨rfl, HB1.out⟩
  · have h60 : ¬ (60 : Int) < (acts.length : Int) := by omega
    go_enter Try.func5, Try.ntmps5
    go_wp2_with fail
    refine (awake_calls _).mono ?_
    rintro e w1 ⟨rfl, hb⟩
    have HB1 := Aside0.mk hb
    clear hb
    obtain ⟨P, hP⟩ : ∃ P, P = min (max p 1) 1048576 := ⟨_, rfl⟩
    have hP1 : 1 ≤ P ∧ P ≤ 1048576 := by omega
    have HP := Aside0.mk hP
    clear hP
    go_wp2_with fail
    refine (new_calls _ _).mono ?_
    rintro e w2 ⟨g, rfl, hA, hb⟩
    rw [← HP.out] at hA
    have HA2 := Aside0.mk (show AL w2 w.heap.size g P [⟨0, P⟩] 0 from ⟨Nat.le_trans HB1.out.size hA.1, hA.2.imp fun v h => ⟨h.1, Kd.R_lower h.2 HB1.out.size⟩⟩)
    have HB2 := Aside0.mk (below_step HB1.out hb)
    clear hA hb
    go_wp2_with fail
    refine (new6 _ _).mono ?_
    rintro e w3 ⟨v3, rfl, hR3, hb⟩
    rw [← HP.out] at hR3 ⊢
    obtain ⟨A3, c3, rfl⟩ := Kd.R_slice hR3
    have HA3 := Aside0.mk (HA2.out.below hb)
    have HB3 := Aside0.mk (below_step HB2.out hb)
    have HR3 := Aside0.mk (show Kd.R k51 51 w3 w.heap.size (fun j => j ≠ g) (.slice A3 1 c3) [⟨0, P⟩] from Kd.R_lower (Kd.R_mono (Kd.R_bound hR3) (fun j hj => by have := hj.2.1; have := HA2.out.lt; show j ≠ g; omega)) HB2.out.size)
    clear hR3 hb
    go_wp2
    have HRW := Aside0.mk (show RW (w3.alloc (.cells #[.int .i64 P, .slice A3 1 c3, .int .i64 0] 40)) w.heap.size g w3.heap.size P [⟨0, P⟩] 0 (.slice A3 1 c3) from ⟨HB3.out.size, heap_alloc_new w3 _, Kd.R_alloc HR3.out _⟩)
    obtain ⟨gw, hgw⟩ : ∃ gw, gw = w3.heap.size := ⟨_, rfl⟩
    have hne : gw ≠ g := by have := HA3.out.lt; omega
    have hgb : w.heap.size ≤ gw := by have := HB3.out.size; omega
    have HA4 := Aside0.mk (HA3.out.below (below_alloc (Below.refl _ _) (.cells #[.int .i64 P, .slice A3 1 c3, .int .i64 0] 40)))
    have HB4 := Aside0.mk (below_alloc HB3.out (.cells #[.int .i64 P, .slice A3 1 c3, .int .i64 0] 40))
    rw [← hgw] at HRW ⊢
    obtain ⟨W4, hW4⟩ : ∃ W, W = (w3.alloc (.cells #[.int .i64 P, .slice A3 1 c3, .int .i64 0] 40)) := ⟨_, rfl⟩
    rw [← hW4] at HRW HA4 HB4 ⊢
    clear hW4 hgw HA3 HB3 HR3 HA2 HB2
    go_loopw [9] (fun vi wr => ∃ (k : Nat) (l : List S51) (t : Int) (v : Value), k ≤ acts.length ∧ vi = .int .i64 k ∧ Aside0 (Inv P k l t) ∧ Aside0 (AL wr w.heap.size g P l t) ∧ Aside0 (RW wr w.heap.size g gw P l t v) ∧ Aside0 (Below w.heap.size w wr)) (fun vi _ => acts.length - (intOf vi).toNat)
    case atStart => exact ⟨0, [⟨0, P⟩], 0, _, Nat.zero_le _, rfl, ⟨Inv.start (by omega)⟩, HA4, HRW, HB4⟩
    case round =>
      obtain ⟨k, l, t, v, hk, rfl, hI, hA, hW, hB⟩ := hrel
      clear HA4 HRW HB4
      obtain ⟨Av, cv, hv⟩ := Kd.R_slice hW.out.2.2
      subst hv
      by_cases hlt : k < acts.length
      · obtain ⟨ad, hAd, hcells⟩ := HC.out (by omega)
        subst hAd
        obtain ⟨e1, e2, e3⟩ := hcells k _ (List.getElem?_eq_getElem hlt)
        obtain ⟨a, ha⟩ : ∃ a, a = acts[k] := ⟨_, rfl⟩
        have hwa := HWF.out _ (List.getElem_mem hlt)
        rw [← ha] at e1 e2 e3 hwa
        have hlo : (ad.add (k * 3)).block < w.heap.size := World.block_lt_of_cell? w _ e1
        have E2 := Aside0.mk e2
        have E3 := Aside0.mk e3
        have HWA := Aside0.mk hwa
        replace e1 := pw_cell_below hB.out e1
        replace e2 := pw_cell_below hB.out e2
        replace e3 := pw_cell_below hB.out e3
        have g0 := blk3_0 hW.out.2.1
        have g1 := blk3_1 hW.out.2.1
        have g2 := blk3_2 hW.out.2.1
        have hlo2 : (ad.add (k * 3)).block < wr.heap.size := Nat.lt_of_lt_of_le hlo hB.out.size
        have hgw2 : gw < wr.heap.size := (Array.getElem?_eq_some_iff.1 hW.out.2.1).1
        have HFR1 := Aside0.mk (show ∀ j, wr.drew.heap.size ≤ j → j ≠ g from fun j hj => by have := hA.out.lt; have h2_ : wr.drew.heap.size = wr.heap.size := rfl; omega)
        have HSZ0 := Aside0.mk (show (wr.drew.alloc (.cells #[.int .i64 0, .slice none 0 0, .int .i64 0] 40)).heap.size = wr.heap.size + 1 from (by have h2_ : wr.drew.heap.size = wr.heap.size := rfl; simp [h2_]))
        have HFR2 := Aside0.mk (show ∀ j, (wr.drew.alloc (.cells #[.int .i64 0, .slice none 0 0, .int .i64 0] 40)).heap.size ≤ j → j ≠ g from fun j hj => by have := hA.out.lt; rw [HSZ0.out] at hj; omega)
        have HSZ2 := Aside0.mk (show w.heap.size ≤ (wr.drew.alloc (.cells #[.int .i64 0, .slice none 0 0, .int .i64 0] 40)).heap.size by have := hB.out.size; rw [HSZ0.out]; omega)
        clear ha hcells hwa
        have hin : 0 ≤ (k : Int) ∧ (k : Int) < (acts.length : Int) := by omega
        have hin2 : (k : Int) < (acts.length : Int) := by omega
        have hgwne : (ad.add (k * 3)).block ≠ gw := Nat.ne_of_lt (Nat.lt_of_lt_of_le hlo hgb)
        cases hgv : a.gv with
        | true =>
          obtain ⟨L2, hL2⟩ : ∃ L, L = playL P l a := ⟨_, rfl⟩
          obtain ⟨t2, ht2⟩ : ∃ t2, t2 = playT P l t a := ⟨_, rfl⟩
          have HI2 := Aside0.mk (show Inv P (k + 1) L2 t2 by rw [hL2, ht2]; exact hI.out.play (by omega) a)
          have HL2 := Aside0.mk hL2
          have HT2 := Aside0.mk ht2
          clear hL2 ht2
          obtain ⟨er, her⟩ : ∃ er : Int, er = if did P l a = true then 0 else 1 := ⟨_, rfl⟩
          have HER := Aside0.mk her
          clear her
          rw [hgv] at e1
          go_wp2
          have q1 : ∀ W, Below wr.heap.size wr W → W.cell? ⟨(ad.add (k * 3)).block, (ad.add (k * 3)).off + 1, none⟩ = some (.int .i64 a.pg) := fun W h => pw_cell_below h e2
          have q2 : ∀ W, Below wr.heap.size wr W → W.cell? ⟨(ad.add (k * 3)).block, (ad.add (k * 3)).off + 2, none⟩ = some (.int .i64 a.n) := fun W h => pw_cell_below h e3
          have q3 : ∀ W, Below wr.heap.size wr W → W.cell? ⟨gw, 0, none⟩ = some (.int .i64 P) := fun W h => pw_cell_below h g0
          have q4 : ∀ W, Below wr.heap.size wr W → W.cell? ⟨gw, 1, none⟩ = some (.slice Av l.length cv) := fun W h => pw_cell_below h g1
          have q5 : ∀ W, Below wr.heap.size wr W → W.cell? ⟨gw, 2, none⟩ = some (.int .i64 t) := fun W h => pw_cell_below h g2
          have hB00 : Below wr.heap.size wr wr.drew := below_drew (Below.refl _ _)
          clear e1 e2 e3 g0 g1 g2
          go_region_held3 (fun w' => Below wr.heap.size wr w')
            (first | assumption | exact below_step (below_drew (Below.refl _ _)) hb5 | exact below_alloc (below_step (below_drew (Below.refl _ _)) hb5) _ | exact below_alloc (below_drew (Below.refl _ _)) _ | exact below_step (below_alloc (below_drew (Below.refl _ _)) _) hb5 | exact below_set3 (below_step (below_alloc (below_drew (Below.refl _ _)) _) hb5) (Nat.le_refl _) _ _ _)
            ((go_at_call 17; first | (refine (give6_any (w := wr.drew) (base := w.heap.size) (ok := fun j => j ≠ g) (Kd.R_drew hW.out.2.2) HFR1.out hB.out.size hI.out (by omega) a hgv HWA.out.1 HWA.out.2 L2 t2 er HL2.out HT2.out HER.out).mono ?_; rintro e w5 ⟨A5, c5, rfl, hR5, hb5⟩; have HR5 := Aside0.mk hR5; clear hR5) | (refine (give6_any (w := wr.drew.alloc (.cells #[.int .i64 0, .slice none 0 0, .int .i64 0] 40)) (base := w.heap.size) (ok := fun j => j ≠ g) (Kd.R_alloc (Kd.R_drew hW.out.2.2) _) HFR2.out HSZ2.out hI.out (by omega) a hgv HWA.out.1 HWA.out.2 L2 t2 er HL2.out HT2.out HER.out).mono ?_; rintro e w5 ⟨A5, c5, rfl, hR5, hb5⟩; have HR5 := Aside0.mk hR5; clear hR5; have hz5 : w5.heap[wr.heap.size]? = some (.cells #[.int .i64 0, .slice none 0 0, .int .i64 0] 40 (0, 0)) := (hb5.block _ (Array.getElem?_eq_some_iff.1 (heap_alloc_new wr.drew _)).1).trans (heap_alloc_new wr.drew _); have z0 := blk3_0 hz5; have z1 := blk3_1 hz5; have z2 := blk3_2 hz5; have z3 := blk_free hz5 0; have z4 := blk_free hz5 1; have z5 := blk_free hz5 2; have HZ5 := Aside0.mk hz5; clear hz5)))
          · -- the call, then the variable
            have HT5 := Aside0.mk (heap_alloc_new w5 (.cells #[.int .i64 P, .slice A5 L2.length c5, .int .i64 t2] 40))
            have HQ5 := Aside0.mk (show Below wr.heap.size wr (w5.alloc (.cells #[.int .i64 P, .slice A5 L2.length c5, .int .i64 t2] 40)) from below_alloc (below_step (below_drew (Below.refl _ _)) hb5) _)
            have HV5 := Aside0.mk (Kd.R_alloc HR5.out (.cells #[.int .i64 P, .slice A5 L2.length c5, .int .i64 t2] 40))
            clear hb5 HR5
            generalize w5.alloc (.cells #[.int .i64 P, .slice A5 L2.length c5, .int .i64 t2] 40) = W5 at HT5 HQ5 HV5 ⊢
            generalize w5.heap.size = b5 at HT5 ⊢
            have hgw5 := (HQ5.out.block gw hgw2).trans hW.out.2.1
            have c0 := blk3_0 HT5.out
            have c1 := blk3_1 HT5.out
            have c2 := blk3_2 HT5.out
            have d0 := blk3_0 hgw5
            have d1 := blk3_1 hgw5
            have d2 := blk3_2 hgw5
            have f0 := blk_free hgw5 0
            have f1 := blk_free hgw5 1
            have f2 := blk_free hgw5 2
            go_wp2
            have HA6 := Aside0.mk ((hA.out.below HQ5.out).set3 hgw5 (Ne.symm hne) (.int .i64 P) (.slice A5 L2.length c5) (.int .i64 t2))
            have HW6 := Aside0.mk ((hW.out.below HQ5.out).put HV5.out t2)
            have HB6 := Aside0.mk (below_set3 (below_step hB.out HQ5.out) hgb (.int .i64 P) (.slice A5 L2.length c5) (.int .i64 t2))
            generalize (((W5.setCell ⟨gw, 0, none⟩ (.int .i64 P)).setCell ⟨gw, 1, none⟩ (.slice A5 L2.length c5)).setCell ⟨gw, 2, none⟩ (.int .i64 t2)) = W6 at HA6 HW6 HB6 ⊢
            clear c0 c1 c2 d0 d1 d2 f0 f1 f2 hgw5 q1 q2 q3 q4 q5 hB00
            have q1 : ∀ W, Below w.heap.size w W → W.cell? ⟨(ad.add (k * 3)).block, (ad.add (k * 3)).off + 1, none⟩ = some (.int .i64 a.pg) := fun W h => pw_cell_below h E2.out
            have q2 : ∀ W, Below w.heap.size w W → W.cell? ⟨(ad.add (k * 3)).block, (ad.add (k * 3)).off + 2, none⟩ = some (.int .i64 a.n) := fun W h => pw_cell_below h E3.out
            have hB6 : Below w.heap.size w W6.drew := below_drew HB6.out
            have hpt := Aside0.mk (show Calls Try.prog 10 #[.pointer (some ⟨g, 0, none⟩), .int .i64 a.pg, .int .i64 a.n] W6.drew fun e w' => e = .returned (.int .i64 er) ∧ AL w' w.heap.size g P L2 t2 ∧ Kept w.heap.size g W6.drew w' by
              have := play_give (HA6.out.below (below_drew (Below.refl _ _))) hI.out a hgv
              rw [← HL2.out, ← HT2.out, ← HER.out] at this
              exact this)
            go_region_held3 (fun w' => Below w.heap.size w w')
              (first | assumption | exact below_drew (Below.refl _ _) | exact hB6.trans hK5.b)
              ((go_at_call 10; first | ((with_reducible refine hpt.out.mono ?_); rintro e w5 ⟨rfl, hA5, hK5⟩) | ((with_reducible refine (give_nil _ _ _).mono ?_); rintro e W7 ⟨rfl, rfl⟩)))
            have HA7 := Aside0.mk hA5
            have HW7 := Aside0.mk ((HW6.out.below (below_drew (Below.refl _ _))).keep hK5.k hne)
            have HB7 := Aside0.mk (hB6.trans hK5.b)
            clear hA5 hK5 q1 q2 hB6 hpt
            go_wp2
            obtain ⟨F, hF⟩ : ∃ F, F = totalF L2 := ⟨_, rfl⟩
            obtain ⟨m, hm⟩ := largest_ex L2
            have HF := Aside0.mk hF
            have HM := Aside0.mk hm
            clear hF hm
            have q3 : ∀ W, Below W7.heap.size W7 W → W.cell? ⟨gw, 0, none⟩ = some (.int .i64 P) := fun W h => pw_cell_below h (blk3_0 HW7.out.2.1)
            have q4 : ∀ W, Below W7.heap.size W7 W → W.cell? ⟨gw, 1, none⟩ = some (.slice A5 L2.length c5) := fun W h => pw_cell_below h (blk3_1 HW7.out.2.1)
            have q5 : ∀ W, Below W7.heap.size W7 W → W.cell? ⟨gw, 2, none⟩ = some (.int .i64 t2) := fun W h => pw_cell_below h (blk3_2 HW7.out.2.1)
            have hB00 : Below W7.heap.size W7 W7.drew := below_drew (Below.refl _ _)
            go_region_held3 (fun w' => Below W7.heap.size W7 w')
              (first | assumption | exact below_step (by assumption) hb5)
              ((first
                | (go_at_call 12; (with_reducible refine (t_runs HA7.out HI2.out (by assumption)).mono ?_); rintro e w5 ⟨A9, c9, rfl, hc9, hC9, hb5⟩; have HC9 := Aside0.mk hC9; have HCC9 := Aside0.mk hc9; clear hC9 hc9)
                | (go_at_call 15; (with_reducible refine (t_same HW7.out HI2.out HC9.out HCC9.out (by assumption)).mono ?_); rintro e w5 ⟨rfl, hb5⟩)
                | (go_at_call 19; (with_reducible refine (t_free HA7.out HI2.out HF.out (by assumption)).mono ?_); rintro e w5 ⟨rfl, hb5⟩)
                | (go_at_call 20; (with_reducible refine (t_total HW7.out HI2.out HF.out (by assumption)).mono ?_); rintro e w5 ⟨rfl, hb5⟩)
                | (go_at_call 13; (with_reducible refine (t_largest HA7.out HI2.out HM.out (by assumption)).mono ?_); rintro e w5 ⟨rfl, hb5⟩)
                | (go_at_call 21; (with_reducible refine (t_largest6 HW7.out HI2.out HM.out (by assumption)).mono ?_); rintro e w5 ⟨rfl, hb5⟩)
                | (go_at_call 14; (with_reducible refine (t_ticks HA7.out (by assumption)).mono ?_); rintro e w5 ⟨rfl, hb5⟩)))
            rename_i hHeld
            have HA8 := Aside0.mk (HA7.out.below hHeld)
            have HW8 := Aside0.mk (HW7.out.below hHeld)
            have HB8 := Aside0.mk (below_step HB7.out hHeld)
            clear hHeld q3 q4 q5 hB00
            go_wp2
            go_roundw
            case rel => exact ⟨k + 1, L2, t2, _, by omega, by go_num, HI2, HA8, HW8, HB8⟩
            case measure => simp [intOf]; omega
          · -- the variable, then the call
            have HT5 := Aside0.mk (blk3_set HZ5.out (.int .i64 P) (.slice A5 L2.length c5) (.int .i64 t2))
            have HQ5 := Aside0.mk (below_set3 (below_step (below_alloc (below_drew (Below.refl wr.heap.size wr)) _) hb5) (Nat.le_refl _) (.int .i64 P) (.slice A5 L2.length c5) (.int .i64 t2))
            have HV5 := Aside0.mk (R_set3 HR5.out HZ5.out (.int .i64 P) (.slice A5 L2.length c5) (.int .i64 t2))
            clear hb5 HR5
            generalize (((w5.setCell ⟨wr.heap.size, 0, none⟩ (.int .i64 P)).setCell ⟨wr.heap.size, 1, none⟩ (.slice A5 L2.length c5)).setCell ⟨wr.heap.size, 2, none⟩ (.int .i64 t2)) = W5 at HT5 HQ5 HV5 ⊢
            have hgw5 := (HQ5.out.block gw hgw2).trans hW.out.2.1
            have c0 := blk3_0 HT5.out
            have c1 := blk3_1 HT5.out
            have c2 := blk3_2 HT5.out
            have d0 := blk3_0 hgw5
            have d1 := blk3_1 hgw5
            have d2 := blk3_2 hgw5
            have f0 := blk_free hgw5 0
            have f1 := blk_free hgw5 1
            have f2 := blk_free hgw5 2
            go_wp2
            have HA6 := Aside0.mk ((hA.out.below HQ5.out).set3 hgw5 (Ne.symm hne) (.int .i64 P) (.slice A5 L2.length c5) (.int .i64 t2))
            have HW6 := Aside0.mk ((hW.out.below HQ5.out).put HV5.out t2)
            have HB6 := Aside0.mk (below_set3 (below_step hB.out HQ5.out) hgb (.int .i64 P) (.slice A5 L2.length c5) (.int .i64 t2))
            generalize (((W5.setCell ⟨gw, 0, none⟩ (.int .i64 P)).setCell ⟨gw, 1, none⟩ (.slice A5 L2.length c5)).setCell ⟨gw, 2, none⟩ (.int .i64 t2)) = W6 at HA6 HW6 HB6 ⊢
            clear c0 c1 c2 d0 d1 d2 f0 f1 f2 hgw5 q1 q2 q3 q4 q5 hB00
            have q1 : ∀ W, Below w.heap.size w W → W.cell? ⟨(ad.add (k * 3)).block, (ad.add (k * 3)).off + 1, none⟩ = some (.int .i64 a.pg) := fun W h => pw_cell_below h E2.out
            have q2 : ∀ W, Below w.heap.size w W → W.cell? ⟨(ad.add (k * 3)).block, (ad.add (k * 3)).off + 2, none⟩ = some (.int .i64 a.n) := fun W h => pw_cell_below h E3.out
            have hB6 : Below w.heap.size w W6.drew := below_drew HB6.out
            have hpt := Aside0.mk (show Calls Try.prog 10 #[.pointer (some ⟨g, 0, none⟩), .int .i64 a.pg, .int .i64 a.n] W6.drew fun e w' => e = .returned (.int .i64 er) ∧ AL w' w.heap.size g P L2 t2 ∧ Kept w.heap.size g W6.drew w' by
              have := play_give (HA6.out.below (below_drew (Below.refl _ _))) hI.out a hgv
              rw [← HL2.out, ← HT2.out, ← HER.out] at this
              exact this)
            go_region_held3 (fun w' => Below w.heap.size w w')
              (first | assumption | exact below_drew (Below.refl _ _) | exact hB6.trans hK5.b)
              ((go_at_call 10; first | ((with_reducible refine hpt.out.mono ?_); rintro e w5 ⟨rfl, hA5, hK5⟩) | ((with_reducible refine (give_nil _ _ _).mono ?_); rintro e W7 ⟨rfl, rfl⟩)))
            have HA7 := Aside0.mk hA5
            have HW7 := Aside0.mk ((HW6.out.below (below_drew (Below.refl _ _))).keep hK5.k hne)
            have HB7 := Aside0.mk (hB6.trans hK5.b)
            clear hA5 hK5 q1 q2 hB6 hpt
            go_wp2
            obtain ⟨F, hF⟩ : ∃ F, F = totalF L2 := ⟨_, rfl⟩
            obtain ⟨m, hm⟩ := largest_ex L2
            have HF := Aside0.mk hF
            have HM := Aside0.mk hm
            clear hF hm
            have q3 : ∀ W, Below W7.heap.size W7 W → W.cell? ⟨gw, 0, none⟩ = some (.int .i64 P) := fun W h => pw_cell_below h (blk3_0 HW7.out.2.1)
            have q4 : ∀ W, Below W7.heap.size W7 W → W.cell? ⟨gw, 1, none⟩ = some (.slice A5 L2.length c5) := fun W h => pw_cell_below h (blk3_1 HW7.out.2.1)
            have q5 : ∀ W, Below W7.heap.size W7 W → W.cell? ⟨gw, 2, none⟩ = some (.int .i64 t2) := fun W h => pw_cell_below h (blk3_2 HW7.out.2.1)
            have hB00 : Below W7.heap.size W7 W7.drew := below_drew (Below.refl _ _)
            go_region_held3 (fun w' => Below W7.heap.size W7 w')
              (first | assumption | exact below_step (by assumption) hb5)
              ((first
                | (go_at_call 12; (with_reducible refine (t_runs HA7.out HI2.out (by assumption)).mono ?_); rintro e w5 ⟨A9, c9, rfl, hc9, hC9, hb5⟩; have HC9 := Aside0.mk hC9; have HCC9 := Aside0.mk hc9; clear hC9 hc9)
                | (go_at_call 15; (with_reducible refine (t_same HW7.out HI2.out HC9.out HCC9.out (by assumption)).mono ?_); rintro e w5 ⟨rfl, hb5⟩)
                | (go_at_call 19; (with_reducible refine (t_free HA7.out HI2.out HF.out (by assumption)).mono ?_); rintro e w5 ⟨rfl, hb5⟩)
                | (go_at_call 20; (with_reducible refine (t_total HW7.out HI2.out HF.out (by assumption)).mono ?_); rintro e w5 ⟨rfl, hb5⟩)
                | (go_at_call 13; (with_reducible refine (t_largest HA7.out HI2.out HM.out (by assumption)).mono ?_); rintro e w5 ⟨rfl, hb5⟩)
                | (go_at_call 21; (with_reducible refine (t_largest6 HW7.out HI2.out HM.out (by assumption)).mono ?_); rintro e w5 ⟨rfl, hb5⟩)
                | (go_at_call 14; (with_reducible refine (t_ticks HA7.out (by assumption)).mono ?_); rintro e w5 ⟨rfl, hb5⟩)))
            rename_i hHeld
            have HA8 := Aside0.mk (HA7.out.below hHeld)
            have HW8 := Aside0.mk (HW7.out.below hHeld)
            have HB8 := Aside0.mk (below_step HB7.out hHeld)
            clear hHeld q3 q4 q5 hB00
            go_wp2
            go_roundw
            case rel => exact ⟨k + 1, L2, t2, _, by omega, by go_num, HI2, HA8, HW8, HB8⟩
            case measure => simp [intOf]; omega
        | false =>
          obtain ⟨L2, hL2⟩ : ∃ L, L = playL P l a := ⟨_, rfl⟩
          obtain ⟨t2, ht2⟩ : ∃ t2, t2 = playT P l t a := ⟨_, rfl⟩
          have HI2 := Aside0.mk (show Inv P (k + 1) L2 t2 by rw [hL2, ht2]; exact hI.out.play (by omega) a)
          have HL2 := Aside0.mk hL2
          have HT2 := Aside0.mk ht2
          clear hL2 ht2
          obtain ⟨er, her⟩ : ∃ er : Int, er = takeE l a.n := ⟨_, rfl⟩
          obtain ⟨pr, hpr⟩ : ∃ pr : Int, pr = takeP l a.n := ⟨_, rfl⟩
          have HER := Aside0.mk her
          have HPR := Aside0.mk hpr
          clear her hpr
          rw [hgv] at e1
          go_wp2
          have q1 : ∀ W, Below wr.heap.size wr W → W.cell? ⟨(ad.add (k * 3)).block, (ad.add (k * 3)).off + 1, none⟩ = some (.int .i64 a.pg) := fun W h => pw_cell_below h e2
          have q2 : ∀ W, Below wr.heap.size wr W → W.cell? ⟨(ad.add (k * 3)).block, (ad.add (k * 3)).off + 2, none⟩ = some (.int .i64 a.n) := fun W h => pw_cell_below h e3
          have q3 : ∀ W, Below wr.heap.size wr W → W.cell? ⟨gw, 0, none⟩ = some (.int .i64 P) := fun W h => pw_cell_below h g0
          have q4 : ∀ W, Below wr.heap.size wr W → W.cell? ⟨gw, 1, none⟩ = some (.slice Av l.length cv) := fun W h => pw_cell_below h g1
          have q5 : ∀ W, Below wr.heap.size wr W → W.cell? ⟨gw, 2, none⟩ = some (.int .i64 t) := fun W h => pw_cell_below h g2
          have hB00 : Below wr.heap.size wr wr.drew := below_drew (Below.refl _ _)
          clear e1 e2 e3 g0 g1 g2
          go_region_held3 (fun w' => Below wr.heap.size wr w')
            (first | assumption | exact below_step (below_drew (Below.refl _ _)) hb5 | exact below_alloc (below_step (below_drew (Below.refl _ _)) hb5) _ | exact below_alloc (below_drew (Below.refl _ _)) _ | exact below_step (below_alloc (below_drew (Below.refl _ _)) _) hb5 | exact below_set3 (below_step (below_alloc (below_drew (Below.refl _ _)) _) hb5) (Nat.le_refl _) _ _ _)
            ((go_at_call 18; first | (refine (take6_any (w := wr.drew) (base := w.heap.size) (ok := fun j => j ≠ g) (Kd.R_drew hW.out.2.2) HFR1.out hB.out.size hI.out (by omega) a hgv L2 t2 pr er HL2.out HT2.out HPR.out HER.out).mono ?_; rintro e w5 ⟨A5, c5, rfl, hR5, hb5⟩; have HR5 := Aside0.mk hR5; clear hR5) | (refine (take6_any (w := wr.drew.alloc (.cells #[.int .i64 0, .slice none 0 0, .int .i64 0] 40)) (base := w.heap.size) (ok := fun j => j ≠ g) (Kd.R_alloc (Kd.R_drew hW.out.2.2) _) HFR2.out HSZ2.out hI.out (by omega) a hgv L2 t2 pr er HL2.out HT2.out HPR.out HER.out).mono ?_; rintro e w5 ⟨A5, c5, rfl, hR5, hb5⟩; have HR5 := Aside0.mk hR5; clear hR5; have hz5 : w5.heap[wr.heap.size]? = some (.cells #[.int .i64 0, .slice none 0 0, .int .i64 0] 40 (0, 0)) := (hb5.block _ (Array.getElem?_eq_some_iff.1 (heap_alloc_new wr.drew _)).1).trans (heap_alloc_new wr.drew _); have z0 := blk3_0 hz5; have z1 := blk3_1 hz5; have z2 := blk3_2 hz5; have z3 := blk_free hz5 0; have z4 := blk_free hz5 1; have z5 := blk_free hz5 2; have HZ5 := Aside0.mk hz5; clear hz5)))
          · -- the call, then the variable
            have HT5 := Aside0.mk (heap_alloc_new w5 (.cells #[.int .i64 P, .slice A5 L2.length c5, .int .i64 t2] 40))
            have HQ5 := Aside0.mk (show Below wr.heap.size wr (w5.alloc (.cells #[.int .i64 P, .slice A5 L2.length c5, .int .i64 t2] 40)) from below_alloc (below_step (below_drew (Below.refl _ _)) hb5) _)
            have HV5 := Aside0.mk (Kd.R_alloc HR5.out (.cells #[.int .i64 P, .slice A5 L2.length c5, .int .i64 t2] 40))
            clear hb5 HR5
            generalize w5.alloc (.cells #[.int .i64 P, .slice A5 L2.length c5, .int .i64 t2] 40) = W5 at HT5 HQ5 HV5 ⊢
            generalize w5.heap.size = b5 at HT5 ⊢
            have hgw5 := (HQ5.out.block gw hgw2).trans hW.out.2.1
            have c0 := blk3_0 HT5.out
            have c1 := blk3_1 HT5.out
            have c2 := blk3_2 HT5.out
            have d0 := blk3_0 hgw5
            have d1 := blk3_1 hgw5
            have d2 := blk3_2 hgw5
            have f0 := blk_free hgw5 0
            have f1 := blk_free hgw5 1
            have f2 := blk_free hgw5 2
            have q6 := cell_set3 (b := gw) (u := .int .i64 P) (u1 := .slice A5 L2.length c5) (u2 := .int .i64 t2) (pw_cell_below (below_step hB.out HQ5.out) E3.out) hgwne
            go_wp2_with fail
            clear q6
            have HA6 := Aside0.mk ((hA.out.below HQ5.out).set3 hgw5 (Ne.symm hne) (.int .i64 P) (.slice A5 L2.length c5) (.int .i64 t2))
            have HW6 := Aside0.mk ((hW.out.below HQ5.out).put HV5.out t2)
            have HB6 := Aside0.mk (below_set3 (below_step hB.out HQ5.out) hgb (.int .i64 P) (.slice A5 L2.length c5) (.int .i64 t2))
            generalize (((W5.setCell ⟨gw, 0, none⟩ (.int .i64 P)).setCell ⟨gw, 1, none⟩ (.slice A5 L2.length c5)).setCell ⟨gw, 2, none⟩ (.int .i64 t2)) = W6 at HA6 HW6 HB6 ⊢
            clear c0 c1 c2 d0 d1 d2 f0 f1 f2 hgw5 q1 q2 q3 q4 q5 hB00
            have hpt := Aside0.mk (show Calls Try.prog 11 #[.pointer (some ⟨g, 0, none⟩), .int .i64 a.n] W6 fun e w' => e = .returned (.tuple #[.int .i64 pr, .int .i64 er]) ∧ AL w' w.heap.size g P L2 t2 ∧ Kept w.heap.size g W6 w' by
              have := play_take HA6.out hI.out a hgv
              rw [← HL2.out, ← HT2.out, ← HPR.out, ← HER.out] at this
              exact this)
            refine hpt.out.mono ?_
            rintro e w5 ⟨rfl, hA5, hK5⟩
            have HA7 := Aside0.mk hA5
            have HW7 := Aside0.mk (HW6.out.keep hK5.k hne)
            have HB7 := Aside0.mk (HB6.out.trans hK5.b)
            clear hA5 hK5 hpt
            have q2 := pw_cell_below HB7.out E3.out
            go_wp2_with fail
            refine (take_nil _ _).mono ?_
            rintro e W7 ⟨rfl, rfl⟩
            clear q2
            go_wp2
            obtain ⟨F, hF⟩ : ∃ F, F = totalF L2 := ⟨_, rfl⟩
            obtain ⟨m, hm⟩ := largest_ex L2
            have HF := Aside0.mk hF
            have HM := Aside0.mk hm
            clear hF hm
            have q3 : ∀ W, Below W7.heap.size W7 W → W.cell? ⟨gw, 0, none⟩ = some (.int .i64 P) := fun W h => pw_cell_below h (blk3_0 HW7.out.2.1)
            have q4 : ∀ W, Below W7.heap.size W7 W → W.cell? ⟨gw, 1, none⟩ = some (.slice A5 L2.length c5) := fun W h => pw_cell_below h (blk3_1 HW7.out.2.1)
            have q5 : ∀ W, Below W7.heap.size W7 W → W.cell? ⟨gw, 2, none⟩ = some (.int .i64 t2) := fun W h => pw_cell_below h (blk3_2 HW7.out.2.1)
            have hB00 : Below W7.heap.size W7 W7.drew := below_drew (Below.refl _ _)
            go_region_held3 (fun w' => Below W7.heap.size W7 w')
              (first | assumption | exact below_step (by assumption) hb5)
              ((first
                | (go_at_call 12; (with_reducible refine (t_runs HA7.out HI2.out (by assumption)).mono ?_); rintro e w5 ⟨A9, c9, rfl, hc9, hC9, hb5⟩; have HC9 := Aside0.mk hC9; have HCC9 := Aside0.mk hc9; clear hC9 hc9)
                | (go_at_call 15; (with_reducible refine (t_same HW7.out HI2.out HC9.out HCC9.out (by assumption)).mono ?_); rintro e w5 ⟨rfl, hb5⟩)
                | (go_at_call 19; (with_reducible refine (t_free HA7.out HI2.out HF.out (by assumption)).mono ?_); rintro e w5 ⟨rfl, hb5⟩)
                | (go_at_call 20; (with_reducible refine (t_total HW7.out HI2.out HF.out (by assumption)).mono ?_); rintro e w5 ⟨rfl, hb5⟩)
                | (go_at_call 13; (with_reducible refine (t_largest HA7.out HI2.out HM.out (by assumption)).mono ?_); rintro e w5 ⟨rfl, hb5⟩)
                | (go_at_call 21; (with_reducible refine (t_largest6 HW7.out HI2.out HM.out (by assumption)).mono ?_); rintro e w5 ⟨rfl, hb5⟩)
                | (go_at_call 14; (with_reducible refine (t_ticks HA7.out (by assumption)).mono ?_); rintro e w5 ⟨rfl, hb5⟩)))
            rename_i hHeld
            have HA8 := Aside0.mk (HA7.out.below hHeld)
            have HW8 := Aside0.mk (HW7.out.below hHeld)
            have HB8 := Aside0.mk (below_step HB7.out hHeld)
            clear hHeld q3 q4 q5 hB00
            go_wp2
            go_roundw
            case rel => exact ⟨k + 1, L2, t2, _, by omega, by go_num, HI2, HA8, HW8, HB8⟩
            case measure => simp [intOf]; omega
          · -- the variable, then the call
            have HT5 := Aside0.mk (blk3_set HZ5.out (.int .i64 P) (.slice A5 L2.length c5) (.int .i64 t2))
            have HQ5 := Aside0.mk (below_set3 (below_step (below_alloc (below_drew (Below.refl wr.heap.size wr)) _) hb5) (Nat.le_refl _) (.int .i64 P) (.slice A5 L2.length c5) (.int .i64 t2))
            have HV5 := Aside0.mk (R_set3 HR5.out HZ5.out (.int .i64 P) (.slice A5 L2.length c5) (.int .i64 t2))
            clear hb5 HR5
            generalize (((w5.setCell ⟨wr.heap.size, 0, none⟩ (.int .i64 P)).setCell ⟨wr.heap.size, 1, none⟩ (.slice A5 L2.length c5)).setCell ⟨wr.heap.size, 2, none⟩ (.int .i64 t2)) = W5 at HT5 HQ5 HV5 ⊢
            have hgw5 := (HQ5.out.block gw hgw2).trans hW.out.2.1
            have c0 := blk3_0 HT5.out
            have c1 := blk3_1 HT5.out
            have c2 := blk3_2 HT5.out
            have d0 := blk3_0 hgw5
            have d1 := blk3_1 hgw5
            have d2 := blk3_2 hgw5
            have f0 := blk_free hgw5 0
            have f1 := blk_free hgw5 1
            have f2 := blk_free hgw5 2
            have q6 := cell_set3 (b := gw) (u := .int .i64 P) (u1 := .slice A5 L2.length c5) (u2 := .int .i64 t2) (pw_cell_below (below_step hB.out HQ5.out) E3.out) hgwne
            go_wp2_with fail
            clear q6
            have HA6 := Aside0.mk ((hA.out.below HQ5.out).set3 hgw5 (Ne.symm hne) (.int .i64 P) (.slice A5 L2.length c5) (.int .i64 t2))
            have HW6 := Aside0.mk ((hW.out.below HQ5.out).put HV5.out t2)
            have HB6 := Aside0.mk (below_set3 (below_step hB.out HQ5.out) hgb (.int .i64 P) (.slice A5 L2.length c5) (.int .i64 t2))
            generalize (((W5.setCell ⟨gw, 0, none⟩ (.int .i64 P)).setCell ⟨gw, 1, none⟩ (.slice A5 L2.length c5)).setCell ⟨gw, 2, none⟩ (.int .i64 t2)) = W6 at HA6 HW6 HB6 ⊢
            clear c0 c1 c2 d0 d1 d2 f0 f1 f2 hgw5 q1 q2 q3 q4 q5 hB00
            have hpt := Aside0.mk (show Calls Try.prog 11 #[.pointer (some ⟨g, 0, none⟩), .int .i64 a.n] W6 fun e w' => e = .returned (.tuple #[.int .i64 pr, .int .i64 er]) ∧ AL w' w.heap.size g P L2 t2 ∧ Kept w.heap.size g W6 w' by
              have := play_take HA6.out hI.out a hgv
              rw [← HL2.out, ← HT2.out, ← HPR.out, ← HER.out] at this
              exact this)
            refine hpt.out.mono ?_
            rintro e w5 ⟨rfl, hA5, hK5⟩
            have HA7 := Aside0.mk hA5
            have HW7 := Aside0.mk (HW6.out.keep hK5.k hne)
            have HB7 := Aside0.mk (HB6.out.trans hK5.b)
            clear hA5 hK5 hpt
            have q2 := pw_cell_below HB7.out E3.out
            go_wp2_with fail
            refine (take_nil _ _).mono ?_
            rintro e W7 ⟨rfl, rfl⟩
            clear q2
            go_wp2
            obtain ⟨F, hF⟩ : ∃ F, F = totalF L2 := ⟨_, rfl⟩
            obtain ⟨m, hm⟩ := largest_ex L2
            have HF := Aside0.mk hF
            have HM := Aside0.mk hm
            clear hF hm
            have q3 : ∀ W, Below W7.heap.size W7 W → W.cell? ⟨gw, 0, none⟩ = some (.int .i64 P) := fun W h => pw_cell_below h (blk3_0 HW7.out.2.1)
            have q4 : ∀ W, Below W7.heap.size W7 W → W.cell? ⟨gw, 1, none⟩ = some (.slice A5 L2.length c5) := fun W h => pw_cell_below h (blk3_1 HW7.out.2.1)
            have q5 : ∀ W, Below W7.heap.size W7 W → W.cell? ⟨gw, 2, none⟩ = some (.int .i64 t2) := fun W h => pw_cell_below h (blk3_2 HW7.out.2.1)
            have hB00 : Below W7.heap.size W7 W7.drew := below_drew (Below.refl _ _)
            go_region_held3 (fun w' => Below W7.heap.size W7 w')
              (first | assumption | exact below_step (by assumption) hb5)
              ((first
                | (go_at_call 12; (with_reducible refine (t_runs HA7.out HI2.out (by assumption)).mono ?_); rintro e w5 ⟨A9, c9, rfl, hc9, hC9, hb5⟩; have HC9 := Aside0.mk hC9; have HCC9 := Aside0.mk hc9; clear hC9 hc9)
                | (go_at_call 15; (with_reducible refine (t_same HW7.out HI2.out HC9.out HCC9.out (by assumption)).mono ?_); rintro e w5 ⟨rfl, hb5⟩)
                | (go_at_call 19; (with_reducible refine (t_free HA7.out HI2.out HF.out (by assumption)).mono ?_); rintro e w5 ⟨rfl, hb5⟩)
                | (go_at_call 20; (with_reducible refine (t_total HW7.out HI2.out HF.out (by assumption)).mono ?_); rintro e w5 ⟨rfl, hb5⟩)
                | (go_at_call 13; (with_reducible refine (t_largest HA7.out HI2.out HM.out (by assumption)).mono ?_); rintro e w5 ⟨rfl, hb5⟩)
                | (go_at_call 21; (with_reducible refine (t_largest6 HW7.out HI2.out HM.out (by assumption)).mono ?_); rintro e w5 ⟨rfl, hb5⟩)
                | (go_at_call 14; (with_reducible refine (t_ticks HA7.out (by assumption)).mono ?_); rintro e w5 ⟨rfl, hb5⟩)))
            rename_i hHeld
            have HA8 := Aside0.mk (HA7.out.below hHeld)
            have HW8 := Aside0.mk (HW7.out.below hHeld)
            have HB8 := Aside0.mk (below_step HB7.out hHeld)
            clear hHeld q3 q4 q5 hB00
            go_wp2
            go_roundw
            case rel => exact ⟨k + 1, L2, t2, _, by omega, by go_num, HI2, HA8, HW8, HB8⟩
            case measure => simp [intOf]; omega
      · have hge : ¬ (k : Int) < (acts.length : Int) := by omega
        go_wp2
        obtain ⟨F, hF⟩ : ∃ F, F = totalF l := ⟨_, rfl⟩
        obtain ⟨m, hm⟩ := largest_ex l
        have HF := Aside0.mk hF
        have HM := Aside0.mk hm
        clear hF hm
        have q3 : ∀ W, Below wr.heap.size wr W → W.cell? ⟨gw, 0, none⟩ = some (.int .i64 P) := fun W h => pw_cell_below h (blk3_0 hW.out.2.1)
        have q4 : ∀ W, Below wr.heap.size wr W → W.cell? ⟨gw, 1, none⟩ = some (.slice Av l.length cv) := fun W h => pw_cell_below h (blk3_1 hW.out.2.1)
        have q5 : ∀ W, Below wr.heap.size wr W → W.cell? ⟨gw, 2, none⟩ = some (.int .i64 t) := fun W h => pw_cell_below h (blk3_2 hW.out.2.1)
        have hB00 : Below wr.heap.size wr wr.drew := below_drew (Below.refl _ _)
        go_region_held3 (fun w' => Below wr.heap.size wr w')
          (first | assumption | exact below_step (by assumption) hb5)
          ((first
            | (go_at_call 22; first | ((with_reducible refine (t_pages hA.out (by assumption)).mono ?_); rintro e w5 ⟨rfl, hb5⟩) | ((with_reducible refine (n_below (pages_nil _)).mono ?_); rintro e w5 ⟨rfl, hb5⟩))
            | (go_at_call 12; first | ((with_reducible refine (t_runs hA.out hI.out (by assumption)).mono ?_); rintro e w5 ⟨A9, c9, rfl, hc9, hC9, hb5⟩; have HC9 := Aside0.mk hC9; have HCC9 := Aside0.mk hc9; clear hC9 hc9) | ((with_reducible refine (n_below (runs_nil _)).mono ?_); rintro e w5 ⟨rfl, hb5⟩))
            | (go_at_call 15; (with_reducible refine (t_same hW.out hI.out HC9.out HCC9.out (by assumption)).mono ?_); rintro e w5 ⟨rfl, hb5⟩)
            | (go_at_call 19; (with_reducible refine (free_nil _).mono ?_); rintro e w5 ⟨rfl, hb5⟩)
            | (go_at_call 13; (with_reducible refine (n_below (largest_nil _)).mono ?_); rintro e w5 ⟨rfl, hb5⟩)
            | (go_at_call 14; (with_reducible refine (n_below (ticks_nil _)).mono ?_); rintro e w5 ⟨rfl, hb5⟩)))
        rename_i hHeld
        have HB8 := Aside0.mk (below_step hB.out hHeld)
        clear hHeld q3 q4 q5 hB00
        go_wp2
        go_ret
        exact ⟨rfl, HB8.out⟩
end Go.Proofs.Ytdkedgdieoojgaa.Rn
