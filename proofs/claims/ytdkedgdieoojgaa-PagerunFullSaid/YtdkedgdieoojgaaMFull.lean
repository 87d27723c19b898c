/- PagerunFull, walked by hand: no room just if the longest free run is too short. -/
import Derived.Test.YtdkedgdieoojgaaMPlay
set_option linter.unusedVariables false
set_option linter.unusedSimpArgs false
namespace Go.Proofs.Ytdkedgdieoojgaa.Rn
open Go.ChangeShapes Go.RowKit Go.Proofs.YtdkedgdieoojgaaW.PrintWords Go.Proofs.YtdkedgdieoojgaaW.PrintLast Go.Proofs.YtdkedgdieoojgaaW.PrintMore
set_option maxHeartbeats 4000000 in
theorem full_walk (p n : Int) (A : Option Addr) (c : Nat) (acts : List Act3) (w : World) (hC : ActC w A acts) (hp : 0 ≤ p ∧ p ≤ 255) (hn : 0 ≤ n ∧ n ≤ 255) :
    Calls Try.prog 3 #[.int .u8 p, .slice A acts.length c, .int .u8 n] w fun e w' => e = .returned (.bool true) ∧ Below w.heap.size w w' := by
  have HC := Aside0.mk hC
  clear hC
  by_cases hlen : 60 < acts.length
  · have h60 : (60 : Int) < (acts.length : Int) := by omega
    go_enter Try.func3, Try.ntmps3
    go_wp2_with fail
    refine (awake_calls _).mono ?_
    rintro e w1 ⟨rfl, hb⟩
    have HB1 := Aside0.mk hb
    clear hb
    go_wp2_with fail
    go_ret
    exact ⟨rfl, HB1.out⟩
  · have h60 : ¬ (60 : Int) < (acts.length : Int) := by omega
    go_enter Try.func3, Try.ntmps3
    go_wp2_with fail
    refine (awake_calls _).mono ?_
    rintro e w1 ⟨rfl, hb⟩
    have HB1 := Aside0.mk hb
    clear hb
    have hp1 : 0 ≤ p := hp.1
    have hp2 : p ≤ 255 := hp.2
    go_wp2_with fail
    refine (new_calls _ _).mono ?_
    rintro e w2 ⟨g, rfl, hA, hb⟩
    obtain ⟨P, hP⟩ : ∃ P, P = min (max p 1) 1048576 := ⟨_, rfl⟩
    rw [← hP] at hA
    have hP1 : 1 ≤ P ∧ P ≤ 1048576 := by omega
    have HA2 := Aside0.mk (show AL w2 w.heap.size g P [⟨0, P⟩] 0 from ⟨Nat.le_trans HB1.out.size hA.1, hA.2.imp fun v h => ⟨h.1, Kd.R_lower h.2 HB1.out.size⟩⟩)
    have HB2 := Aside0.mk (below_step HB1.out hb)
    clear hA hb hP
    go_wp2
    go_loopw [9] (fun v wr => ∃ (k : Nat) (l : List S51) (t : Int), k ≤ acts.length ∧ v = .int .i64 k ∧ Aside0 (Inv P k l t) ∧ Aside0 (AL wr w.heap.size g P l t) ∧ Aside0 (Below w.heap.size w wr)) (fun v _ => acts.length - (intOf v).toNat)
    case atStart => exact ⟨0, [⟨0, P⟩], 0, Nat.zero_le _, rfl, ⟨Inv.start hP1⟩, HA2, HB2⟩
    case round =>
      obtain ⟨k, l, t, hk, rfl, hI, hA, hB⟩ := hrel
      by_cases hlt : k < acts.length
      · obtain ⟨ad, hAd, hcells⟩ := HC.out (by omega)
        subst hAd
        obtain ⟨e1, e2, e3⟩ := hcells k _ (List.getElem?_eq_getElem hlt)
        have hlo : (ad.add (k * 3)).block < w.heap.size := World.block_lt_of_cell? w _ e1
        replace e1 := pw_cell_below hB.out e1
        replace e2 := pw_cell_below hB.out e2
        replace e3 := pw_cell_below hB.out e3
        obtain ⟨a, ha⟩ : ∃ a, a = acts[k] := ⟨_, rfl⟩
        rw [← ha] at e1 e2 e3
        clear ha hcells
        have hin : 0 ≤ (k : Int) ∧ (k : Int) < (acts.length : Int) := by omega
        have hin2 : (k : Int) < (acts.length : Int) := by omega
        cases hgv : a.gv with
        | true =>
          rw [hgv] at e1
          go_wp2
          go_region_held3 (fun w' => w'.cell? ⟨(ad.add (k * 3)).block, (ad.add (k * 3)).off + 1, none⟩ = some (.int .i64 a.pg) ∧ w'.cell? ⟨(ad.add (k * 3)).block, (ad.add (k * 3)).off + 2, none⟩ = some (.int .i64 a.n))
            (first | go_keep | (go_split_ands; refine ⟨?_, ?_⟩ <;> (refine (hK5.b.cell (p := ⟨(ad.add (k * 3)).block, _, none⟩) hlo).trans ?_; assumption)))
            ((go_at_call 10; refine (play_give (hA.out.below (below_drew (Below.refl _ _))) hI.out a hgv).mono ?_; rintro e w5 ⟨he5, hA5, hK5⟩; obtain ⟨r5, hr5⟩ : ∃ r : Int, r = (if did P l a = true then 0 else 1) := ⟨_, rfl⟩; rw [← hr5] at he5; subst he5; have HR5 := Aside0.mk hr5; clear hr5))
          all_goals
            have HA5 := Aside0.mk hA5
            have HB5 := Aside0.mk (hB.out.trans ((below_drew (Below.refl _ _)).trans hK5.b))
            clear hA5 hK5 e1 e2 e3
          go_wp2
          go_roundw
          case rel => exact ⟨k + 1, _, _, by omega, by go_num, ⟨hI.out.play (by omega) a⟩, HA5, HB5⟩
          case measure => simp [intOf]; omega
        | false =>
          rw [hgv] at e1
          go_wp2_with fail
          refine (play_take hA.out hI.out a hgv).mono ?_
          rintro e w5 ⟨he5, hA5, hK5⟩
          obtain ⟨r5, hr5⟩ : ∃ r : Int, r = takeP l a.n := ⟨_, rfl⟩
          obtain ⟨s5, hs5⟩ : ∃ r : Int, r = takeE l a.n := ⟨_, rfl⟩
          rw [← hr5, ← hs5] at he5
          subst he5
          clear hr5 hs5
          have HA5 := Aside0.mk hA5
          have HB5 := Aside0.mk (hB.out.trans hK5.b)
          clear hA5 hK5 e1 e2 e3
          go_wp2
          go_roundw
          case rel => exact ⟨k + 1, _, _, by omega, by go_num, ⟨hI.out.play (by omega) a⟩, HA5, HB5⟩
          case measure => simp [intOf]; omega
      · have hge : ¬ (k : Int) < (acts.length : Int) := by omega
        have hq1 : 0 ≤ n := hn.1
        have hq2 : n ≤ 255 := hn.2
        go_wp2_with fail
        refine (runs_calls hA.out (fitsR_len hI.out.fits)).mono ?_
        rintro e w5 ⟨v5, rfl, hR5, hb5⟩
        obtain ⟨A5, c5, rfl, hc5, hC5⟩ := Kd.R_reads hR5
        have HA5 := Aside0.mk (hA.out.below hb5)
        have HC5 := Aside0.mk hC5
        have HCC5 := Aside0.mk hc5
        have HR5 := Aside0.mk (Kd.R_mono (Kd.R_bound hR5) (fun j hj => show j ≠ g by have := hj.2.1; have := hA.out.lt; omega))
        have HB5 := Aside0.mk (below_step hB.out hb5)
        clear hR5 hb5 hC5 hc5
        go_wp2_with fail
        refine (largest_calls HA5.out hI.out.fits).mono ?_
        rintro e w6 ⟨m, rfl, hm, hb6⟩
        have HM := Aside0.mk hm
        have HA6 := Aside0.mk (HA5.out.below hb6)
        have HB6 := Aside0.mk (below_step HB5.out hb6)
        have HR6 := Aside0.mk (Kd.R_below HR5.out hb6)
        clear hm hb6
        go_wp2_with fail
        refine (ticks_calls HA6.out).mono ?_
        rintro e w7 ⟨rfl, rfl⟩
        go_wp2_with fail
        obtain ⟨K, hK⟩ : ∃ K, K = n % 60 + 1 := ⟨_, rfl⟩
        rw [← hK]
        have hK1 : 1 ≤ K := by omega
        have htb := hI.out.tb
        have hlb : (l.length : Int) ≤ 1000 := by have := fitsR_len hI.out.fits; omega
        have ht0 : 0 ≤ t := htb.1
        have ht1 : t ≤ 1000000000 := htb.2
        clear hK htb
        by_cases hKm : K ≤ m
        · have hb : ¬ bestF l K < 0 := by
            intro hlt'
            rcases bestF_best l K with ⟨_, hB⟩ | ⟨_, h0, _⟩
            · rcases HM.out with ⟨_, h0⟩ | ⟨⟨x, hx, hxm⟩, _⟩
              · omega
              · obtain ⟨j, hj, rfl⟩ := List.mem_iff_getElem.1 hx
                have := hB j (Nat.zero_le _) hj (by omega)
                rw [rd_get hj] at this
                omega
            · omega
          refine (take_calls HA6.out hI.out.fits hI.out.tb K hK1 hb).mono ?_
          rintro e w8 ⟨he8, hA8, hK8⟩
          obtain ⟨r8, hr8⟩ : ∃ r : Int, r = (l.getD (bestF l K).toNat z51).f0 := ⟨_, rfl⟩
          rw [← hr8] at he8
          subst he8
          have HA8 := Aside0.mk hA8
          have HB8 := Aside0.mk (HB6.out.trans hK8.b)
          clear hA8 hK8 hr8 hb
          go_wp2_with fail
          refine (ticks_calls HA8.out).mono ?_
          rintro e w9 ⟨rfl, rfl⟩
          go_wp2_with fail
          go_ret
          exact ⟨rfl, HB8.out⟩
        · have hb : bestF l K < 0 := by
            rcases bestF_best l K with ⟨h0, _⟩ | ⟨_, h0, h1, h2, _⟩
            · omega
            · exfalso
              obtain ⟨i, x, hi, hx, _, hrd, _, hnx, _, _, hxm⟩ := best_some hI.out.hr (show ¬ bestF l K < 0 by omega)
              rcases HM.out with ⟨h, _⟩ | ⟨_, hall⟩
              · rw [h] at hxm; simp at hxm
              · have := hall x hxm; omega
          have hKm' : m < K := by omega
          refine (take_no HA6.out hI.out.fits K hK1 hb).mono ?_
          rintro e w8 ⟨rfl, hA8, hK8⟩
          have HA8 := Aside0.mk hA8
          have HB8 := Aside0.mk (HB6.out.trans hK8.b)
          have HR8 := Aside0.mk (Kd.R_keep HR6.out hK8.k (fun _ h => h))
          clear hA8 hK8 hb
          go_wp2_with fail
          refine (runs_calls HA8.out (fitsR_len hI.out.fits)).mono ?_
          rintro e w9 ⟨v9, rfl, hR9, hb9⟩
          obtain ⟨A9, c9, rfl, hc9, hC9⟩ := Kd.R_reads hR9
          have HC9 := Aside0.mk hC9
          have HCC9 := Aside0.mk hc9
          have HA9 := Aside0.mk (HA8.out.below hb9)
          have HB9 := Aside0.mk (below_step HB8.out hb9)
          have HR9 := Aside0.mk (Kd.R_below HR8.out hb9)
          clear hR9 hb9 hC9 hc9
          go_wp2_with fail
          refine (steadingref05_Same.calls (l.length + 1) _ _ l _ _ l true _ HC9.out HCC9.out (Kd.R_reads' HR9.out).2.2 HCC5.out (same_is l (by omega) _ (Nat.lt_succ_self _))).mono ?_
          rintro e w10 ⟨rfl, hb10⟩
          replace hb10 : Below w9.heap.size w9 w10 := by obtain ⟨n_, rfl⟩ := hb10; exact pw_below_drewN (Below.refl _ _) n_
          have HA10 := Aside0.mk (HA9.out.below hb10)
          have HB10 := Aside0.mk (below_step HB9.out hb10)
          clear hb10
          go_wp2_with fail
          refine (ticks_calls HA10.out).mono ?_
          rintro e w11 ⟨rfl, rfl⟩
          go_wp2_with fail
          go_ret
          exact ⟨rfl, HB10.out⟩
end Go.Proofs.Ytdkedgdieoojgaa.Rn
