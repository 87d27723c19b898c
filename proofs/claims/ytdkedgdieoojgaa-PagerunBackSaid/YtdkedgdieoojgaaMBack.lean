/- PagerunBack, walked by hand: what is taken and given back at once leaves the free runs as they were. -/
import Derived.Test.YtdkedgdieoojgaaMPlay
set_option linter.unusedVariables false
set_option linter.unusedSimpArgs false
namespace Go.Proofs.Ytdkedgdieoojgaa.Rn
open Go.ChangeShapes Go.RowKit Go.Proofs.YtdkedgdieoojgaaW.PrintWords Go.Proofs.YtdkedgdieoojgaaW.PrintLast Go.Proofs.YtdkedgdieoojgaaW.PrintMore
/-- A block of pages all of whose memory lies below a limit. -/
def ALL (w : World) (base g : Nat) (P : Int) (l : List S51) (t : Int) (lim : Nat) : Prop :=
  base ≤ g ∧ g < lim ∧ lim ≤ w.heap.size ∧ ∃ v, w.heap[g]? = some (.cells #[.int .i64 P, v, .int .i64 t] 57 (0, 0)) ∧ Kd.R k51 51 w base (fun k => k ≠ g ∧ k < lim) v l
theorem ALL.of {w : World} {base g : Nat} {P : Int} {l : List S51} {t : Int} (h : AL w base g P l t) : ALL w base g P l t w.heap.size := by
  have hlt := h.lt
  obtain ⟨h0, v, h, hR⟩ := h
  exact ⟨h0, hlt, Nat.le_refl _, v, h, Kd.R_mono (Kd.R_bound hR) (fun k hk => ⟨hk.1, hk.2.2.1⟩)⟩
theorem ALL.al {w : World} {base g : Nat} {P : Int} {l : List S51} {t : Int} {lim : Nat} (h : ALL w base g P l t lim) : AL w base g P l t := by
  obtain ⟨h0, h1, h2, v, h, hR⟩ := h
  exact ⟨h0, v, h, Kd.R_mono hR (fun k hk => hk.1)⟩
theorem ALL.below {w w1 : World} {base g : Nat} {P : Int} {l : List S51} {t : Int} {lim : Nat} (h : ALL w base g P l t lim) (hb : Below w.heap.size w w1) : ALL w1 base g P l t lim := by
  obtain ⟨h0, h1, h2, v, h, hR⟩ := h
  exact ⟨h0, h1, Nat.le_trans h2 hb.size, v, (hb.block _ (Nat.lt_of_lt_of_le h1 h2)).trans h, Kd.R_below hR hb⟩
theorem ALL.keep {w w1 : World} {base g g2 : Nat} {P : Int} {l : List S51} {t : Int} {lim : Nat} (h : ALL w base g P l t lim) (hk : KeepBut w w1 g2 none) (hg : lim ≤ g2) : ALL w1 base g P l t lim := by
  obtain ⟨h0, h1, h2, v, h, hR⟩ := h
  exact ⟨h0, h1, Nat.le_trans h2 hk.1, v, (hk.2 _ (Nat.lt_of_lt_of_le h1 h2) (by omega) (by simp)).trans h, Kd.R_keep hR hk (fun k hk => by omega)⟩
theorem b1_calls (w : World) (base g : Nat) (n : Int) (h : AL w base g 1000 [⟨0, 1000⟩] 0) (hn : 0 ≤ n ∧ n ≤ 255) :
    Calls Try.prog 11 #[.pointer (some ⟨g, 0, none⟩), .int .i64 (n + 1)] w fun e w' => e = .returned (.tuple #[.int .i64 0, .int .i64 0]) ∧ AL w' base g 1000 [⟨n + 1, 1000 - (n + 1)⟩] 2 ∧ Kept base g w w' := by
  have hb : bestF [⟨0, 1000⟩] (n + 1) = 0 := by
    show bestUpto [⟨0, 1000⟩] (n + 1) (0 + 1) = 0
    rw [bestUpto, if_pos]; rfl
    exact ⟨by omega, by show n + 1 ≤ 1000; omega, .inl (by show (-1 : Int) < 0; decide)⟩
  have ht : takeAt [⟨0, 1000⟩] (0 : Int).toNat (n + 1) = [⟨n + 1, 1000 - (n + 1)⟩] := by
    unfold takeAt; rw [if_pos (by show n + 1 < 1000; omega)]
    show [(⟨0 + (n + 1), 1000 - (n + 1)⟩ : S51)] = _
    rw [Int.zero_add]
  have := take_calls h (by decide) (by omega) (n + 1) (by omega) (by omega)
  rw [hb, ht] at this
  exact this
theorem b2_calls (w : World) (base g : Nat) (n m : Int) (h : AL w base g 1000 [⟨n + 1, 1000 - (n + 1)⟩] 2) (hn : 0 ≤ n ∧ n ≤ 255) (hm : 0 ≤ m ∧ m ≤ 255) :
    Calls Try.prog 11 #[.pointer (some ⟨g, 0, none⟩), .int .i64 (m + 1)] w fun e w' => e = .returned (.tuple #[.int .i64 (n + 1), .int .i64 0]) ∧ True ∧ Kept base g w w' := by
  have hb : bestF [⟨n + 1, 1000 - (n + 1)⟩] (m + 1) = 0 := by
    show bestUpto [⟨n + 1, 1000 - (n + 1)⟩] (m + 1) (0 + 1) = 0
    rw [bestUpto, if_pos]; rfl
    exact ⟨by omega, by show m + 1 ≤ 1000 - (n + 1); omega, .inl (by show (-1 : Int) < 0; decide)⟩
  have hf : fitsR [⟨n + 1, 1000 - (n + 1)⟩] = true := by
    simp only [fitsR, Bool.and_eq_true, List.all_eq_true, decide_eq_true_eq]
    refine ⟨by simp, fun x hx => ?_⟩
    simp at hx; subst hx
    show 0 ≤ n + 1 ∧ n + 1 ≤ 1099511627776 ∧ 0 ≤ 1000 - (n + 1) ∧ 1000 - (n + 1) ≤ 1099511627776
    omega
  have := take_calls h hf (by omega) (m + 1) (by omega) (by omega)
  rw [hb] at this
  exact this.mono fun e w' ⟨h1, h2, h3⟩ => ⟨h1, trivial, h3⟩
set_option maxHeartbeats 4000000 in
theorem back_walk (p n m2 : Int) (A : Option Addr) (c : Nat) (acts : List Act3) (w : World) (hC : ActC w A acts) (hp : 0 ≤ p ∧ p ≤ 65535) (hn : 0 ≤ n ∧ n ≤ 255) (hm2 : 0 ≤ m2 ∧ m2 ≤ 255) :
    Calls Try.prog 4 #[.int .u16 p, .slice A acts.length c, .int .u8 n, .int .u8 m2] w fun e w' => e = .returned (.bool true) ∧ Below w.heap.size w w' := by
  have HC := Aside0.mk hC
  clear hC
  by_cases hlen : 60 < acts.length
  · have h60 : (60 : Int) < (acts.length : Int) := by omega
    go_enter Try.func4, Try.ntmps4
    go_wp2_with fail
    refine (awake_calls _).mono ?_
    rintro e w1 ⟨rfl, hb⟩
    have HB1 := Aside0.mk hb
    clear hb
    go_wp2_with fail
    go_ret
    exact ⟨rfl, HB1.out⟩
  · have h60 : ¬ (60 : Int) < (acts.length : Int) := by omega
    go_enter Try.func4, Try.ntmps4
    go_wp2_with fail
    refine (awake_calls _).mono ?_
    rintro e w1 ⟨rfl, hb⟩
    have HB1 := Aside0.mk hb
    clear hb
    have hp1 : 0 ≤ p := hp.1
    have hp2 : p ≤ 65535 := hp.2
    go_wp2_with fail
    refine (new_calls _ _).mono ?_
    rintro e w2 ⟨g, rfl, hA, hb⟩
    obtain ⟨P, hP⟩ : ∃ P, P = min (max p 1) 1048576 := ⟨_, rfl⟩
    rw [← hP] at hA
    have hP1 : 1 ≤ P ∧ P ≤ 1048576 := by omega
    have HA2 := Aside0.mk (show AL w2 w.heap.size g P [⟨0, P⟩] 0 from ⟨Nat.le_trans HB1.out.size hA.1, hA.2.imp fun v h => ⟨h.1, Kd.R_lower h.2 HB1.out.size⟩⟩)
    have HB2 := Aside0.mk (below_step HB1.out hb)
    clear hA hb hP
    go_wp2
    go_loopw [11] (fun v wr => ∃ (k : Nat) (l : List S51) (t : Int), k ≤ acts.length ∧ v = .int .i64 k ∧ Aside0 (Inv P k l t) ∧ Aside0 (AL wr w.heap.size g P l t) ∧ Aside0 (Below w.heap.size w wr)) (fun v _ => acts.length - (intOf v).toNat)
    case atStart => exact ⟨0, [⟨0, P⟩], 0, Nat.zero_le _, rfl, ⟨Inv.start hP1⟩, HA2, HB2⟩
    case round =>
      obtain ⟨k, l, t, hk, rfl, hI, hA, hB⟩ := hrel
      by_cases hlt : k < acts.length
      · obtain ⟨ad, hAd, hcells⟩ := HC.out (by omega)
        subst hAd
        obtain ⟨e1, e2, e3⟩ := hcells k _ (List.getElem?_eq_getElem hlt)
        have hlo : (ad.add (k * 3)).block < w.heap.size := World.block_lt_of_cell? w _ e1
        replace e1 := pw_cell_below hB.out e1
        replace e2 := pw_cell_below hB.out e2
        replace e3 := pw_cell_below hB.out e3
        obtain ⟨a, ha⟩ : ∃ a, a = acts[k] := ⟨_, rfl⟩
        rw [← ha] at e1 e2 e3
        clear ha hcells
        have hin : 0 ≤ (k : Int) ∧ (k : Int) < (acts.length : Int) := by omega
        have hin2 : (k : Int) < (acts.length : Int) := by omega
        cases hgv : a.gv with
        | true =>
          rw [hgv] at e1
          go_wp2
          go_region_held3 (fun w' => w'.cell? ⟨(ad.add (k * 3)).block, (ad.add (k * 3)).off + 1, none⟩ = some (.int .i64 a.pg) ∧ w'.cell? ⟨(ad.add (k * 3)).block, (ad.add (k * 3)).off + 2, none⟩ = some (.int .i64 a.n))
            (first | go_keep | (go_split_ands; refine ⟨?_, ?_⟩ <;> (refine (hK5.b.cell (p := ⟨(ad.add (k * 3)).block, _, none⟩) hlo).trans ?_; assumption)))
            ((go_at_call 10; refine (play_give (hA.out.below (below_drew (Below.refl _ _))) hI.out a hgv).mono ?_; rintro e w5 ⟨he5, hA5, hK5⟩; obtain ⟨r5, hr5⟩ : ∃ r : Int, r = (if did P l a = true then 0 else 1) := ⟨_, rfl⟩; rw [← hr5] at he5; subst he5; have HR5 := Aside0.mk hr5; clear hr5))
          all_goals
            have HA5 := Aside0.mk hA5
            have HB5 := Aside0.mk (hB.out.trans ((below_drew (Below.refl _ _)).trans hK5.b))
            clear hA5 hK5 e1 e2 e3
          go_wp2
          go_roundw
          case rel => exact ⟨k + 1, _, _, by omega, by go_num, ⟨hI.out.play (by omega) a⟩, HA5, HB5⟩
          case measure => simp [intOf]; omega
        | false =>
          rw [hgv] at e1
          go_wp2_with fail
          refine (play_take hA.out hI.out a hgv).mono ?_
          rintro e w5 ⟨he5, hA5, hK5⟩
          obtain ⟨r5, hr5⟩ : ∃ r : Int, r = takeP l a.n := ⟨_, rfl⟩
          obtain ⟨s5, hs5⟩ : ∃ r : Int, r = takeE l a.n := ⟨_, rfl⟩
          rw [← hr5, ← hs5] at he5
          subst he5
          clear hr5 hs5
          have HA5 := Aside0.mk hA5
          have HB5 := Aside0.mk (hB.out.trans hK5.b)
          clear hA5 hK5 e1 e2 e3
          go_wp2
          go_roundw
          case rel => exact ⟨k + 1, _, _, by omega, by go_num, ⟨hI.out.play (by omega) a⟩, HA5, HB5⟩
          case measure => simp [intOf]; omega
      · have hge : ¬ (k : Int) < (acts.length : Int) := by omega
        have hq1 : 0 ≤ n := hn.1
        have hq2 : n ≤ 255 := hn.2
        go_wp2_with fail
        refine (runs_calls hA.out (fitsR_len hI.out.fits)).mono ?_
        rintro e w5 ⟨v5, rfl, hR5, hb5⟩
        obtain ⟨A5, c5, rfl, hc5, hC5⟩ := Kd.R_reads hR5
        have HA5 := Aside0.mk (hA.out.below hb5)
        have HC5 := Aside0.mk hC5
        have HCC5 := Aside0.mk hc5
        have HR5 := Aside0.mk (Kd.R_mono (Kd.R_bound hR5) (fun j hj => show j ≠ g by have := hj.2.1; have := hA.out.lt; omega))
        have HB5 := Aside0.mk (below_step hB.out hb5)
        clear hR5 hb5 hC5 hc5
        have htb := hI.out.tb
        have hlb : (l.length : Int) ≤ 1000 := by have := fitsR_len hI.out.fits; omega
        have ht0 : 0 ≤ t := htb.1
        have ht1 : t ≤ 500000 := by have := hI.out.ht; have := hI.out.hk; omega
        go_wp2_with fail
        refine (ticks_calls HA5.out).mono ?_
        rintro e w7 ⟨rfl, rfl⟩
        go_wp2_with fail
        by_cases hN : 1 ≤ n ∧ ¬ bestF l n < 0
        · obtain ⟨i, x, hi, hx, hg, _, hn1, hnx, hx0, hxP, hxm⟩ := best_some hI.out.hr hN.2
          refine (take_calls HA5.out hI.out.fits hI.out.tb n hN.1 hN.2).mono ?_
          rw [hi, Int.toNat_natCast, hg]
          obtain ⟨t1, t2, t3⟩ := take_spec_from l P (-1) i x n hI.out.hr hx hn1 hnx
          have tl : (takeAt l i n).length ≤ l.length := take_len
          have hPb := hI.out.hP
          generalize takeAt l i n = L1 at t1 t2 t3 tl ⊢
          have fl1 : fitsR L1 = true := right_fits t1 (by omega) (by omega)
          have free : ∀ q, x.f0 ≤ q → q < x.f0 + n → ¬ Cov L1 q := fun q h1 h2 h3 => ((t2 q).1 h3).2 ⟨h1, h2⟩
          have gok : giveOk L1 P x.f0 n = true := (giveOk_iff t1).2 ⟨hx0, hn1, by omega, free⟩
          obtain ⟨g1, g2, g3⟩ := give_spec t1 gok
          have same : giveF L1 x.f0 n = l := canon g1 hI.out.hr (fun q => by
            rw [g2 q, t2 q]
            constructor
            · rintro (h | h)
              · exact h.1
              · exact ⟨x, hxm, by omega, by omega⟩
            · intro h
              by_cases d : x.f0 ≤ q ∧ q < x.f0 + n
              · exact .inr d
              · exact .inl ⟨h, d⟩)
          have hl1 : (L1.length : Int) ≤ 1000 := by omega
          have GOK := Aside0.mk gok
          have SAME := Aside0.mk same
          have FL1 := Aside0.mk fl1
          clear t1 t2 t3 tl free gok g1 g2 g3 same fl1 hi hx hg hxm hnx htb
          rintro e w8 ⟨rfl, hA8, hK8⟩
          have HA8 := Aside0.mk hA8
          have HB8 := Aside0.mk (HB5.out.trans hK8.b)
          have HR8 := Aside0.mk (Kd.R_keep HR5.out hK8.k (fun _ h => h))
          clear hA8 hK8
          go_wp2_with fail
          refine (runs_calls HA8.out (fitsR_len FL1.out)).mono ?_
          rintro e w9 ⟨v9, rfl, hR9, hb9⟩
          obtain ⟨A9, c9, rfl, hc9, hC9⟩ := Kd.R_reads hR9
          have HA9 := Aside0.mk (HA8.out.below hb9)
          have HB9 := Aside0.mk (below_step HB8.out hb9)
          have HR9 := Aside0.mk (Kd.R_below HR8.out hb9)
          clear hR9 hb9 hC9 hc9
          go_wp2_with fail
          refine (give_calls HA9.out FL1.out hI.out.hP (by omega) x.f0 n GOK.out).mono ?_
          rw [SAME.out]
          rintro e w10 ⟨rfl, hA10, hK10⟩
          have HA10 := Aside0.mk hA10
          have HB10 := Aside0.mk (HB9.out.trans hK10.b)
          have HR10 := Aside0.mk (Kd.R_keep HR9.out hK10.k (fun _ h => h))
          clear hA10 hK10
          go_wp2_with fail
          refine (ticks_calls HA10.out).mono ?_
          rintro e w11 ⟨rfl, rfl⟩
          obtain ⟨lim, hlim⟩ : ∃ k, k = w11.heap.size := ⟨_, rfl⟩
          have HALL := Aside0.mk (show ALL w11 w.heap.size g P l (t + 1 + l.length + 1 + L1.length) lim from hlim ▸ ALL.of HA10.out)
          have HRWL := Aside0.mk (show Kd.R k51 51 w11 wr.heap.size (fun k => k < lim) (.slice A5 l.length c5) l from Kd.R_mono (Kd.R_bound HR10.out) (fun k hk => by have := hk.2.2.1; omega))
          have HBL := HB10
          have HLIM := Aside0.mk (show lim ≤ w11.heap.size by omega)
          clear hlim
          go_wp2_with fail
          refine (new_calls _ _).mono ?_
          rintro e wb1 ⟨gb, rfl, hA, hbb⟩
          have HAb1 := Aside0.mk (show AL wb1 w11.heap.size gb 1000 [⟨0, 1000⟩] 0 from hA)
          have HAL1 := Aside0.mk (HALL.out.below hbb)
          have HRW1 := Aside0.mk (Kd.R_below HRWL.out hbb)
          have HBb1 := Aside0.mk (below_step HBL.out hbb)
          have HGB := Aside0.mk (show lim ≤ gb from Nat.le_trans HLIM.out hA.1)
          clear hA hbb
          go_wp2_with fail
          refine (b1_calls _ _ _ n HAb1.out hn).mono ?_
          rintro e wb2 ⟨rfl, hA, hK⟩
          have HAb2 := Aside0.mk hA
          have HAL2 := Aside0.mk (HAL1.out.keep hK.k HGB.out)
          have HRW2 := Aside0.mk (Kd.R_keep HRW1.out hK.k (fun k h => by have := HGB.out; omega))
          have HBb2 := Aside0.mk (HBb1.out.trans (hK.b.mono HBL.out.size))
          clear hA hK
          go_wp2_with fail
          refine (b2_calls _ _ _ n m2 HAb2.out hn hm2).mono ?_
          rintro e wb3 ⟨rfl, hA, hK⟩
          have HAL3 := Aside0.mk (HAL2.out.keep hK.k HGB.out)
          have HRW3 := Aside0.mk (Kd.R_keep HRW2.out hK.k (fun k h => by have := HGB.out; omega))
          have HBb3 := Aside0.mk (HBb2.out.trans (hK.b.mono HBL.out.size))
          clear hA hK
          go_wp2_with fail
          refine (runs_calls HAL3.out.al (fitsR_len hI.out.fits)).mono ?_
          rintro e wb4 ⟨v9, rfl, hR9, hb9⟩
          obtain ⟨A9, c9, rfl, hc9, hC9⟩ := Kd.R_reads hR9
          have HC9 := Aside0.mk hC9
          have HCC9 := Aside0.mk hc9
          have HB9 := Aside0.mk (below_step HBb3.out hb9)
          have HR9 := Aside0.mk (Kd.R_below HRW3.out hb9)
          clear hR9 hb9 hC9 hc9
          go_wp2_with fail
          refine (steadingref05_Same.calls (l.length + 1) _ _ l _ _ l true _ HC9.out HCC9.out (Kd.R_reads' HR9.out).2.2 HCC5.out (same_is l (by have := fitsR_len hI.out.fits; omega) _ (Nat.lt_succ_self _))).mono ?_
          rintro e wb5 ⟨rfl, hb10⟩
          have HB10 := Aside0.mk (show Below w.heap.size w wb5 from below_step HB9.out (by obtain ⟨n_, rfl⟩ := hb10; exact pw_below_drewN (Below.refl _ _) n_))
          clear hb10
          go_wp2_with fail
          go_ret
          exact ⟨rfl, HB10.out⟩
        · have hs5 : (takeE l n == 0) = false := by
            unfold takeE
            by_cases c1 : n < 1
            · rw [if_pos c1]; rfl
            · rw [if_neg c1, if_pos (by omega)]; rfl
          have hdid : did P l (tk n) = false := by
            unfold did tk
            simp only
            rw [if_neg (by decide), Bool.and_eq_false_iff, decide_eq_false_iff_not, decide_eq_false_iff_not]
            omega
          have hpt := play_take HA5.out hI.out (tk n) rfl
          unfold playL playT at hpt
          rw [hdid] at hpt
          refine hpt.mono ?_
          obtain ⟨r5, hr5⟩ : ∃ r : Int, r = takeP l (tk n).n := ⟨_, rfl⟩
          obtain ⟨s5, hs6⟩ : ∃ r : Int, r = takeE l (tk n).n := ⟨_, rfl⟩
          rw [← hr5, ← hs6]
          replace hs5 : (s5 == 0) = false := by rw [hs6]; exact hs5
          clear hr5 hs6 hdid hpt htb
          rintro e w8 ⟨rfl, hA8, hK8⟩
          replace hA8 : AL w8 w.heap.size g P l t := hA8
          have HA10 := Aside0.mk hA8
          have HB10 := Aside0.mk (HB5.out.trans hK8.b)
          have HR10 := Aside0.mk (Kd.R_keep HR5.out hK8.k (fun _ h => h))
          clear hA8 hK8
          obtain ⟨lim, hlim⟩ : ∃ k, k = w8.heap.size := ⟨_, rfl⟩
          have HALL := Aside0.mk (show ALL w8 w.heap.size g P l t lim from hlim ▸ ALL.of HA10.out)
          have HRWL := Aside0.mk (show Kd.R k51 51 w8 wr.heap.size (fun k => k < lim) (.slice A5 l.length c5) l from Kd.R_mono (Kd.R_bound HR10.out) (fun k hk => by have := hk.2.2.1; omega))
          have HBL := HB10
          have HLIM := Aside0.mk (show lim ≤ w8.heap.size by omega)
          clear hlim
          go_wp2_with fail
          refine (new_calls _ _).mono ?_
          rintro e wb1 ⟨gb, rfl, hA, hbb⟩
          have HAb1 := Aside0.mk (show AL wb1 w8.heap.size gb 1000 [⟨0, 1000⟩] 0 from hA)
          have HAL1 := Aside0.mk (HALL.out.below hbb)
          have HRW1 := Aside0.mk (Kd.R_below HRWL.out hbb)
          have HBb1 := Aside0.mk (below_step HBL.out hbb)
          have HGB := Aside0.mk (show lim ≤ gb from Nat.le_trans HLIM.out hA.1)
          clear hA hbb
          go_wp2_with fail
          refine (b1_calls _ _ _ n HAb1.out hn).mono ?_
          rintro e wb2 ⟨rfl, hA, hK⟩
          have HAb2 := Aside0.mk hA
          have HAL2 := Aside0.mk (HAL1.out.keep hK.k HGB.out)
          have HRW2 := Aside0.mk (Kd.R_keep HRW1.out hK.k (fun k h => by have := HGB.out; omega))
          have HBb2 := Aside0.mk (HBb1.out.trans (hK.b.mono HBL.out.size))
          clear hA hK
          go_wp2_with fail
          refine (b2_calls _ _ _ n m2 HAb2.out hn hm2).mono ?_
          rintro e wb3 ⟨rfl, hA, hK⟩
          have HAL3 := Aside0.mk (HAL2.out.keep hK.k HGB.out)
          have HRW3 := Aside0.mk (Kd.R_keep HRW2.out hK.k (fun k h => by have := HGB.out; omega))
          have HBb3 := Aside0.mk (HBb2.out.trans (hK.b.mono HBL.out.size))
          clear hA hK
          go_wp2_with fail
          refine (runs_calls HAL3.out.al (fitsR_len hI.out.fits)).mono ?_
          rintro e wb4 ⟨v9, rfl, hR9, hb9⟩
          obtain ⟨A9, c9, rfl, hc9, hC9⟩ := Kd.R_reads hR9
          have HC9 := Aside0.mk hC9
          have HCC9 := Aside0.mk hc9
          have HB9 := Aside0.mk (below_step HBb3.out hb9)
          have HR9 := Aside0.mk (Kd.R_below HRW3.out hb9)
          clear hR9 hb9 hC9 hc9
          go_wp2_with fail
          refine (steadingref05_Same.calls (l.length + 1) _ _ l _ _ l true _ HC9.out HCC9.out (Kd.R_reads' HR9.out).2.2 HCC5.out (same_is l (by have := fitsR_len hI.out.fits; omega) _ (Nat.lt_succ_self _))).mono ?_
          rintro e wb5 ⟨rfl, hb10⟩
          have HB10 := Aside0.mk (show Below w.heap.size w wb5 from below_step HB9.out (by obtain ⟨n_, rfl⟩ := hb10; exact pw_below_drewN (Below.refl _ _) n_))
          clear hb10
          go_wp2_with fail
          go_ret
          exact ⟨rfl, HB10.out⟩
end Go.Proofs.Ytdkedgdieoojgaa.Rn
