/- TableHolds, walked by hand: each live handle has what was added or set last by it; a table of other things is the same. -/
import Derived.Test.YtgcbfbdhibbpdaaMHolds0
import Derived.Test.YtgcbfbdhibbpdaaMActs
import Derived.Test.YtgcbfbdhibbpdaaMAwake
import Derived.Test.YtgcbfbdhibbpdaaMSame
set_option linter.unusedVariables false
set_option linter.unusedSimpArgs false
namespace Go.Proofs.Ytgcbfbdhibbpdaa.Tb
open Go.ChangeShapes Go.RowKit Go.Proofs.YtgcbfbdhibbpdaaW.PrintWords Go.Proofs.YtgcbfbdhibbpdaaW.PrintLast Go.Proofs.YtgcbfbdhibbpdaaW.PrintMore
attribute [local go_sem] max2_int min2_int
theorem blk4_0 {w : World} {b : Nat} {x y z u : Value} {t : Nat} (h : w.heap[b]? = some (.cells #[x, y, z, u] t (0, 0))) : w.cell? ⟨b, 0, none⟩ = some x := by simp [World.cell?, h]
theorem blk4_1 {w : World} {b : Nat} {x y z u : Value} {t : Nat} (h : w.heap[b]? = some (.cells #[x, y, z, u] t (0, 0))) : w.cell? ⟨b, 1, none⟩ = some y := by simp [World.cell?, h]
theorem blk4_3 {w : World} {b : Nat} {x y z u : Value} {t : Nat} (h : w.heap[b]? = some (.cells #[x, y, z, u] t (0, 0))) : w.cell? ⟨b, 3, none⟩ = some u := by simp [World.cell?, h]
theorem neq_xy (w : World) : (binOp .neq 68 (.agg #[.string ⟨#[120]⟩, .string ⟨#[121]⟩]) (.agg #[.string ⟨#[120]⟩, .string ⟨#[121]⟩])).run Try.prog w = .ok (.bool false) w := by kernel_rfl
theorem row_cell {k : IntKind} {e : Nat} {w : World} {base : Nat} {ok : Nat → Prop} {b n c : Nat} {xs : List Int} (h : (Kd.int k).R e w base ok (.slice (some ⟨b, 0, none⟩) n c) xs) {i : Nat} (hi : i < xs.length) : w.cell? ⟨b, i, none⟩ = some (.int k (xs.getD i 0)) := by
  obtain ⟨b2, c2, he, h1, _⟩ := row_at h hi
  simp only [Value.slice.injEq, Option.some.injEq, Addr.mk.injEq] at he
  have he1 := he.1.1
  subst he1
  exact h1
set_option maxRecDepth 10000 in
set_option maxHeartbeats 16000000 in
theorem holds_walk (A : Option Addr) (c : Nat) (acts : List Act4) (w : World) (hC : ActC w A acts) (hwf : ∀ q ∈ acts, q.ok) :
    Calls Try.prog 7 #[.slice A acts.length c] w fun e w' => e = .returned (.bool true) ∧ Below w.heap.size w w' := by
  have HC := Aside0.mk hC
  have HWF := Aside0.mk hwf
  obtain ⟨base, hbs⟩ : ∃ b, b = w.heap.size := ⟨_, rfl⟩
  have HBA := Aside0.mk (Nat.le_of_eq hbs)
  have HBE := Aside0.mk hbs
  clear hbs hC hwf
  by_cases hlen : 80 < acts.length
  · have h80 : (80 : Int) < (acts.length : Int) := by omega
    go_enter Try.func7, Try.ntmps7
    go_wp2_with fail
    refine (awake_calls w).mono ?_
    rintro e w1 ⟨rfl, hb1⟩
    have HB1 := Aside0.mk hb1
    clear hb1
    go_wp2_with fail
    go_ret
    exact ⟨rfl, HB1.out⟩
  · have h80 : ¬ (80 : Int) < (acts.length : Int) := by omega
    go_enter Try.func7, Try.ntmps7
    go_wp2_with fail
    refine (awake_calls w).mono ?_
    rintro e w1 ⟨rfl, hb1⟩
    have HB1 := Aside0.mk hb1
    clear hb1
    go_wp2_with fail
    refine (new_calls 1 w1 base (tg own0 0) (Nat.le_trans HBA.out HB1.out.size) (fun _ _ => rfl)).mono ?_
    rintro e w2 ⟨rfl, hT2, hF2⟩
    obtain ⟨g, hgw⟩ : ∃ g, g = w1.heap.size := ⟨_, rfl⟩
    rw [← hgw] at hT2
    rw [← hgw]
    have HT2 := Aside0.mk hT2
    have HB2 := Aside0.mk (show Below base w w2 from (HB1.out.mono HBA.out).trans hF2.b)
    clear hT2 hF2 hgw HB1
    go_wp2_with fail
    refine (Pr.new_calls 1 w2 base (tg (up own0 w2.heap.size 3) 3) (Nat.le_trans HBA.out HB2.out.size) (up_fresh _ _ _)).mono ?_
    rintro e w3 ⟨rfl, hU3, hF3⟩
    obtain ⟨gu, hgw⟩ : ∃ g, g = w2.heap.size := ⟨_, rfl⟩
    have hT3 := TB_pass HT2.out hF3 (by decide)
    obtain ⟨own3, hown3⟩ : ∃ o, o = up own0 w2.heap.size 3 := ⟨_, rfl⟩
    rw [← hown3] at hU3 hT3
    rw [← hgw] at hU3
    rw [← hgw]
    have HT3 := Aside0.mk hT3
    have HU3 := Aside0.mk hU3
    have HB3 := Aside0.mk (HB2.out.trans hF3.b)
    clear hT3 hU3 hF3 hown3 hgw HT2 HB2
    go_wp2_with fail
    go_loopw [6, 7, 8] (fun vh vv i wr => ∃ (q : Nat) (sl : List S76) (sp : List Pr.S95) (fr hs vs : List Int) (own : Nat → Nat), q ≤ acts.length ∧ i = .int .i64 q ∧ Aside0 (InvH q sl sp fr hs vs) ∧ Aside0 (TB wr base (tg own 0) g 1 sl fr) ∧ Aside0 (Pr.TB wr base (tg own 3) gu 1 sp fr) ∧ Aside0 ((Kd.int .u64).R 27 wr base (tg own 1) vh hs) ∧ Aside0 ((Kd.int .i64).R 3 wr base (tg own 2) vv vs) ∧ Aside0 (Below base w wr)) (fun _ _ i _ => acts.length - (intOf i).toNat)
    case atStart => exact ⟨0, [], [], [], [], [], own3, Nat.zero_le _, rfl, ⟨InvH.start⟩, HT3, HU3, ⟨Kd.R_nil _ _ _ _ _⟩, ⟨Kd.R_nil _ _ _ _ _⟩, HB3⟩
    case round =>
      clear HT3 HU3 HB3
      obtain ⟨q, sl, sp, fr, hs, vs, own, hq, rfl, hI, hT, hU, hV, hW, hB⟩ := hrel
      obtain ⟨Ah, ch, hv⟩ := Kd.R_slice hV.out
      subst hv
      obtain ⟨Av, cv, hv⟩ := Kd.R_slice hW.out
      subst hv
      by_cases hlt : q < acts.length
      · obtain ⟨ad, hA, hcell⟩ := HC.out (by omega)
        subst hA
        obtain ⟨e0, e1, e2, e3⟩ := hcell q _ (List.getElem?_eq_getElem hlt)
        have hok := HWF.out _ (List.getElem_mem hlt)
        obtain ⟨a, ha⟩ : ∃ a, a = acts[q] := ⟨_, rfl⟩
        rw [← ha] at e0 e1 e2 e3 hok
        have hblt := World.block_lt_of_cell? w _ e0
        replace e0 := (hB.out.cell (by rw [HBE.out]; exact hblt)).trans e0
        replace e1 := (hB.out.cell (p := ⟨(ad.add (q * 4)).block, (ad.add (q * 4)).off + 1, none⟩) (by rw [HBE.out]; exact hblt)).trans e1
        replace e2 := (hB.out.cell (p := ⟨(ad.add (q * 4)).block, (ad.add (q * 4)).off + 2, none⟩) (by rw [HBE.out]; exact hblt)).trans e2
        replace e3 := (hB.out.cell (p := ⟨(ad.add (q * 4)).block, (ad.add (q * 4)).off + 3, none⟩) (by rw [HBE.out]; exact hblt)).trans e3
        have hin1 : 0 ≤ (q : Int) ∧ (q : Int) < (acts.length : Int) := by omega
        have hin2 : (q : Int) < (acts.length : Int) := by omega
        have hop := hok.1
        have hwh := hok.2.1
        have hav := Aside0.mk hok.2.2.2
        obtain ⟨op, hopp⟩ : ∃ x, x = a.op := ⟨_, rfl⟩
        obtain ⟨wh, hwhh⟩ : ∃ x, x = a.wh := ⟨_, rfl⟩
        obtain ⟨ah, hahh⟩ : ∃ x, x = a.h := ⟨_, rfl⟩
        obtain ⟨av, havv⟩ : ∃ x, x = a.v := ⟨_, rfl⟩
        rw [← hopp] at e0 hop
        rw [← hwhh] at e1 hwh
        rw [← hahh] at e2
        rw [← havv] at e3 hav
        clear hcell ha hblt hok hopp hwhh hahh havv
        have hq1 : q + 1 ≤ 80 := by omega
        have hbelow : Below wr.heap.size wr (wr.alloc (.cells #[.int .u8 op, .int .u8 wh, .int .u64 ah, .int .i64 av] 39)) := below_alloc (Below.refl _ _) _
        have HA0 := Aside0.mk (heap_alloc_new wr (.cells #[.int .u8 op, .int .u8 wh, .int .u64 ah, .int .i64 av] 39))
        have HT0 := Aside0.mk ((TB_up (j := 9) hT.out).below hbelow)
        have HU0 := Aside0.mk ((Pr.TB_up (j := 9) hU.out).below hbelow)
        have HV0 := Aside0.mk (R_stay (j := 9) hV.out hbelow)
        have HW0 := Aside0.mk (R_stay (j := 9) hW.out hbelow)
        have HB0 := Aside0.mk (hB.out.trans (hbelow.mono (Nat.le_trans HBA.out hB.out.size)))
        obtain ⟨W0, hW0⟩ : ∃ W, W = wr.alloc (.cells #[.int .u8 op, .int .u8 wh, .int .u64 ah, .int .i64 av] 39) := ⟨_, rfl⟩
        obtain ⟨ab, hab⟩ : ∃ b, b = wr.heap.size := ⟨_, rfl⟩
        obtain ⟨o0, ho0⟩ : ∃ o, o = up own wr.heap.size 9 := ⟨_, rfl⟩
        have HO9 := Aside0.mk (show o0 ab = 9 by rw [ho0, hab]; exact up_new (Nat.le_refl _))
        rw [← ho0] at HT0 HU0 HV0 HW0
        rw [← hW0] at HA0 HT0 HU0 HV0 HW0 HB0
        rw [← hab] at HA0
        have HWW := Aside0.mk hW0
        have HAB := Aside0.mk hab
        have hhl := hI.out.hq
        have hhv := hI.out.hl
        have hn80 : hs.length ≤ 80 := by omega
        have hm80 : vs.length ≤ 80 := by omega
        clear hhl hW0 hab ho0 hbelow hT hU hV hW hB hhv
        by_cases d0 : op = 0
        · subst d0
          have HA := Aside0.mk (add_own HT0.out hI.out.good (by omega) av (Nat.le_trans HBA.out HB0.out.size))
          have HGP := Aside0.mk (show Good (Pr.sk sp) fr by rw [hI.out.same]; exact hI.out.good)
          have HI2 := Aside0.mk (hI.out.add hq1 av)
          obtain ⟨hx, hhx⟩ : ∃ x, x = pk 1 (addI (sk sl) fr) (addG (sk sl) fr) := ⟨_, rfl⟩
          rw [← hhx] at HA HI2
          have HHX := Aside0.mk (show pk 1 (addI (Pr.sk sp) fr) (addG (Pr.sk sp) fr) = hx by rw [hI.out.same]; exact hhx.symm)
          clear hhx
          go_upto_if 37 with (fail)
          rw [← HWW.out, ← HAB.out]
          clear e0 e1 e2 e3
          have b3 := blk4_3 HA0.out
          go_wp2_with fail
          refine HA.out.mono ?_
          rintro e w4 ⟨rfl, hT4, hF4⟩
          have HT4 := Aside0.mk hT4
          have HU4 := Aside0.mk (Pr.TB_pass HU0.out hF4 (by decide))
          have HV4 := Aside0.mk (R_pass HV0.out hF4 (by decide))
          have HW4 := Aside0.mk (R_pass HW0.out hF4 (by decide))
          have HA4 := Aside0.mk (blk_pass HA0.out HO9.out hF4 (by decide))
          have HO4 := Aside0.mk (up_keep (j := 0) HO9.out (Array.getElem?_eq_some_iff.1 HA0.out).1)
          have HB4 := Aside0.mk (HB0.out.trans hF4.b)
          obtain ⟨o4, ho4⟩ : ∃ o, o = up o0 W0.heap.size 0 := ⟨_, rfl⟩
          rw [← ho4] at HT4 HU4 HV4 HW4 HO4
          clear hT4 hF4 ho4 HA HT0 HU0 HV0 HW0 HB0 b3
          have HP := Aside0.mk (Pr.add_own HU4.out HGP.out (by omega) ⟨#[120]⟩ ⟨#[121]⟩ (Nat.le_trans HBA.out HB4.out.size))
          rw [HHX.out] at HP
          go_wp2_with fail
          refine HP.out.mono ?_
          rintro e w5 ⟨rfl, hU5, hF5⟩
          have HU5 := Aside0.mk hU5
          have HT5 := Aside0.mk (TB_pass HT4.out hF5 (by decide))
          have HV5 := Aside0.mk (R_pass HV4.out hF5 (by decide))
          have HW5 := Aside0.mk (R_pass HW4.out hF5 (by decide))
          have HA5 := Aside0.mk (blk_pass HA4.out HO4.out hF5 (by decide))
          have HO5 := Aside0.mk (up_keep (j := 3) HO4.out (Array.getElem?_eq_some_iff.1 HA4.out).1)
          have HB5 := Aside0.mk (HB4.out.trans hF5.b)
          obtain ⟨o5, ho5⟩ : ∃ o, o = up o4 w4.heap.size 3 := ⟨_, rfl⟩
          rw [← ho5] at HT5 HU5 HV5 HW5 HO5
          clear hU5 hF5 ho5 HP HT4 HU4 HV4 HW4 HB4
          go_wp2_with (at_builtin; first | (refine app_own (Kd.int .u64) base rfl _ _ 26 27 _ 8 rfl Try.underlying26 info27 rfl (show 0 < 1 by decide) (by decide) (.slice Ah hs.length ch) hs hx [.int .u64 hx] o5 1 rfl (by first | rfl | (go_simp; done) | (simp; done)) rfl HV5.out (Nat.le_trans HBA.out HB5.out.size) (by omega) ?_; intro v1 w6 hV6 hF6; obtain ⟨hs2, hhs2⟩ : ∃ o, o = hs ++ [hx] := ⟨_, rfl⟩; have h20 : 0 < hs2.length := (by rw [hhs2]; simp); have h21 : (0 : Int) < (hs2.length : Int) := (by omega); have h22 : hs2.length ≤ 81 := (by rw [hhs2]; simp; omega); rw [← hhs2] at hV6; obtain ⟨Ah2, ch2, hv6⟩ := Kd.R_slice hV6; subst hv6; have HHS := Aside0.mk hhs2; clear hhs2; have hA6 := blk_pass HA5.out HO5.out hF6 (by decide); have c3 := blk4_3 hA6; have HA6 := Aside0.mk hA6; have HV6 := Aside0.mk hV6; have HF6 := Aside0.mk hF6; clear hV6 hF6 hA6) | (refine app_own (Kd.int .i64) base rfl _ _ 29 3 _ 8 rfl Try.underlying29 info3 rfl (show 0 < 1 by decide) (by decide) (.slice Av vs.length cv) vs av [.int .i64 av] (up o5 w5.heap.size 1) 2 rfl (by first | rfl | (go_simp; done) | (simp; done)) rfl (R_pass HW5.out HF6.out (by decide)) (Nat.le_trans HBA.out (Nat.le_trans HB5.out.size HF6.out.b.size)) (by omega) ?_; intro v2 w7 hW7 hF7; have hA7 := blk_pass HA6.out (up_keep (j := 1) HO5.out (Array.getElem?_eq_some_iff.1 HA5.out).1) hF7 (by decide); have c0 := blk4_0 hA7; have c1 := blk4_1 hA7; clear hA7 c3; have HW7 := Aside0.mk hW7; have HF7 := Aside0.mk hF7; clear hW7 hF7))
          go_roundw
          case rel => exact ⟨q + 1, _, _, _, hs2, _, _, by omega, by go_num, ⟨by rw [HHS.out]; exact HI2.out⟩, ⟨TB_pass (TB_pass HT5.out HF6.out (by decide)) HF7.out (by decide)⟩, ⟨Pr.TB_pass (Pr.TB_pass HU5.out HF6.out (by decide)) HF7.out (by decide)⟩, ⟨R_pass HV6.out HF7.out (by decide)⟩, HW7, ⟨(HB5.out.trans HF6.out.b).trans HF7.out.b⟩⟩
          case measure => simp [intOf]; omega
        · by_cases dz : hs.length = 0
          · have hz : ((hs.length : Int) == 0) = true := by rw [dz]; rfl
            have HZ := Aside0.mk dz
            clear dz
            have HI2 := Aside0.mk (hI.out.keep hq1)
            go_upto_if 37 with (fail)
            rw [← HWW.out, ← HAB.out]
            clear e0 e1 e2 e3
            go_wp2
            go_roundw
            case rel => exact ⟨q + 1, sl, sp, fr, hs, vs, o0, by omega, by go_num, HI2, HT0, HU0, HV0, HW0, HB0⟩
            case measure => simp [intOf]; omega
          · have h20 : 0 < hs.length := by omega
            have h21 : (0 : Int) < (hs.length : Int) := by omega
            obtain ⟨k, hk⟩ : ∃ k : Nat, wh % (hs.length : Int) = k := ⟨(wh % (hs.length : Int)).toNat, by have := Int.emod_nonneg wh (show (hs.length : Int) ≠ 0 by omega); omega⟩
            have hkl : k < hs.length := by have := Int.emod_lt_of_pos wh (show (0 : Int) < hs.length by omega); omega
            have hk1 : 0 ≤ (k : Int) ∧ (k : Int) < (hs.length : Int) := by omega
            have hk2 : (k : Int) < (hs.length : Int) := by omega
            have hhv := hI.out.hl
            have hkv : k < vs.length := by omega
            have hkv1 : 0 ≤ (k : Int) ∧ (k : Int) < (vs.length : Int) := by omega
            have hkv2 : (k : Int) < (vs.length : Int) := by omega
            have HHV := Aside0.mk hhv
            clear hhv
            by_cases d2 : op = 2
            · subst d2
              obtain ⟨hb, hc, he, hcx, _⟩ := row_at HV0.out hkl
              simp only [Value.slice.injEq, true_and] at he
              obtain ⟨he1, he2⟩ := he
              subst he1 he2
              obtain ⟨vb, vc, he, hcv, hfv⟩ := row_at HW0.out hkv
              simp only [Value.slice.injEq, true_and] at he
              obtain ⟨he1, he2⟩ := he
              subst he1 he2
              obtain ⟨x, hx⟩ : ∃ x, x = hs.getD k 0 := ⟨_, rfl⟩
              have HI2 := Aside0.mk (hI.out.set hq1 av hkl)
              have hlx := hI.out.lv k hkl
              rw [← hx] at hcx HI2 hlx
              have HLX := Aside0.mk hlx
              have HX := Aside0.mk hx
              clear hlx hx
              go_upto_if 37 with (fail)
              rw [← HWW.out, ← HAB.out]
              clear e0 e1 e2 e3
              have b0 := blk4_0 HA0.out
              have b1 := blk4_1 HA0.out
              have b3 := blk4_3 HA0.out
              go_wp2
              have HP := Aside0.mk (put_own HW0.out (Nat.le_trans HBA.out HB0.out.size) k av)
              obtain ⟨W1, hW1⟩ : ∃ W, W = W0.setCell ⟨vb, k, none⟩ (.int .i64 av) := ⟨_, rfl⟩
              rw [← hW1] at HP ⊢
              have HT1 := Aside0.mk (TB_pass HT0.out HP.out.2 (by decide))
              have HU1 := Aside0.mk (Pr.TB_pass HU0.out HP.out.2 (by decide))
              have HV1 := Aside0.mk (R_pass HV0.out HP.out.2 (by decide))
              have HA1 := Aside0.mk (blk_pass HA0.out HO9.out HP.out.2 (by decide))
              have HO1 := Aside0.mk (up_keep (j := 2) HO9.out (Array.getElem?_eq_some_iff.1 HA0.out).1)
              have HB1 := Aside0.mk (HB0.out.trans HP.out.2.b)
              have HW1 := Aside0.mk HP.out.1
              obtain ⟨o1, ho1⟩ : ∃ o, o = up o0 W0.heap.size 2 := ⟨_, rfl⟩
              rw [← ho1] at HT1 HU1 HV1 HW1 HO1
              have HSZ := Aside0.mk (show W1.drew.heap.size = W1.heap.size from rfl)
              have hTd : TB W1.drew base (tg o1 0) g 1 sl fr := HT1.out.step (fun _ _ _ => rfl)
              have HS := Aside0.mk (set_own hTd x av HLX.out.2.1 (Nat.le_trans HBA.out (show w.heap.size ≤ W1.drew.heap.size from HB1.out.size)) HLX.out.2.2.1)
              obtain ⟨hb2, hc2, he, hcx1, _⟩ := row_at HV1.out hkl
              simp only [Value.slice.injEq, Option.some.injEq, Addr.mk.injEq] at he
              have he1 := he.1.1
              subst he1
              rw [← HX.out] at hcx1
              replace b3 := blk4_3 HA1.out
              clear hW1 ho1 HP HT0 HU0 HV0 HW0 HB0 b0 b1 hcx hcv hfv he hTd
              go_region_held3 (fun w' => w'.cell? ⟨ab, 3, none⟩ = some (.int .i64 av) ∧ w'.cell? ⟨hb, k, none⟩ = some (.int .u64 x))
                (first | exact ⟨b3, hcx1⟩ | exact ⟨b5, hcx5⟩)
                ((go_at_call 22; (with_reducible refine HS.out.mono ?_); rintro e w5 ⟨rfl, hT5, hF5⟩; have hA5 := blk_pass (w := W1.drew) HA1.out HO1.out hF5 (by decide); have b5 := blk4_3 hA5; have hcx5 := row_cell (R_pass (w := W1.drew) HV1.out hF5 (by decide)) hkl; rw [← HX.out] at hcx5; have HT5 := Aside0.mk hT5; have HF5 := Aside0.mk hF5; have HA5 := Aside0.mk hA5; clear hT5 hF5 hA5))
              have b50 := blk4_0 HA5.out
              clear hcx1 b3
              go_wp2
              go_roundw
              case rel => exact ⟨q + 1, _, sp, fr, hs, _, _, by omega, by go_num, HI2, HT5, ⟨Pr.TB_pass (w := W1.drew) HU1.out HF5.out (by decide)⟩, ⟨R_pass (w := W1.drew) HV1.out HF5.out (by decide)⟩, ⟨R_pass (w := W1.drew) HW1.out HF5.out (by decide)⟩, ⟨(below_drew HB1.out).trans HF5.out.b⟩⟩
              case measure => simp [intOf]; omega
            · by_cases d3 : op = 3
              · subst d3
                obtain ⟨n1, hn1⟩ : ∃ n1, hs.length = n1 + 1 := ⟨hs.length - 1, by omega⟩
                have hl1 : (hs.length : Int) - 1 = (n1 : Int) := by omega
                have hl2 : (vs.length : Int) - 1 = (n1 : Int) := by have := HHV.out; omega
                have hnk1 : 0 ≤ (n1 : Int) ∧ (n1 : Int) < (hs.length : Int) := by omega
                have hnk2 : (n1 : Int) < (hs.length : Int) := by omega
                have hnv1 : 0 ≤ (n1 : Int) ∧ (n1 : Int) < (vs.length : Int) := by have := HHV.out; omega
                have hnv2 : (n1 : Int) < (vs.length : Int) := by have := HHV.out; omega
                have HN1 := Aside0.mk hn1
                have HV1 := Aside0.mk (show vs.length = n1 + 1 by have := HHV.out; omega)
                clear hn1
                obtain ⟨hb, hc, he, hcx, hfx⟩ := row_at HV0.out hkl
                simp only [Value.slice.injEq, true_and] at he
                obtain ⟨he1, he2⟩ := he
                subst he1 he2
                obtain ⟨vb, vc, he, hcv, hfv⟩ := row_at HW0.out hkv
                simp only [Value.slice.injEq, true_and] at he
                obtain ⟨he1, he2⟩ := he
                subst he1 he2
                obtain ⟨x, hx⟩ : ∃ x, x = hs.getD k 0 := ⟨_, rfl⟩
                have HI2 := Aside0.mk (hI.out.drop hq1 hkl)
                have hlx := hI.out.lv k hkl
                rw [← hx] at hcx HI2 hlx
                have HLX := Aside0.mk hlx
                have HX := Aside0.mk hx
                have HGP := Aside0.mk (show Good (Pr.sk sp) fr by rw [hI.out.same]; exact hI.out.good)
                have HLP := Aside0.mk (show lvS 1 (Pr.sk sp) x = true by rw [hI.out.same]; exact hlx.2.2.1)
                clear hlx hx hfx hcv hfv
                go_upto_if 37 with (fail)
                rw [← HWW.out, ← HAB.out]
                clear e0 e1 e2 e3
                have b0 := blk4_0 HA0.out
                have b1 := blk4_1 HA0.out
                have HD := Aside0.mk (drop_own HT0.out hI.out.good x HLX.out.1 HLX.out.2.1 (Nat.le_trans HBA.out HB0.out.size) HLX.out.2.2.1)
                go_wp2_with fail
                with_reducible refine HD.out.mono ?_
                rintro e w4 ⟨rfl, hT4, hF4⟩
                have HT4 := Aside0.mk hT4
                have HU4 := Aside0.mk (Pr.TB_pass HU0.out hF4 (by decide))
                have HV4 := Aside0.mk (R_pass HV0.out hF4 (by decide))
                have HW4 := Aside0.mk (R_pass HW0.out hF4 (by decide))
                have HB4 := Aside0.mk (HB0.out.trans hF4.b)
                obtain ⟨o4, ho4⟩ : ∃ o, o = up o0 W0.heap.size 0 := ⟨_, rfl⟩
                rw [← ho4] at HT4 HU4 HV4 HW4
                have hcx4 := row_cell HV4.out hkl
                rw [← HX.out] at hcx4
                clear hT4 hF4 ho4 HD HT0 HU0 HV0 HW0 HB0 b0 b1 hcx
                have HD := Aside0.mk (Pr.drop_own HU4.out HGP.out x HLX.out.1 HLX.out.2.1 (Nat.le_trans HBA.out HB4.out.size) HLP.out)
                go_wp2_with fail
                with_reducible refine HD.out.mono ?_
                rintro e w5 ⟨rfl, hU5, hF5⟩
                have HU5 := Aside0.mk hU5
                have HT5 := Aside0.mk (TB_pass HT4.out hF5 (by decide))
                have HV5 := Aside0.mk (R_pass HV4.out hF5 (by decide))
                have HW5 := Aside0.mk (R_pass HW4.out hF5 (by decide))
                have HB5 := Aside0.mk (HB4.out.trans hF5.b)
                obtain ⟨o5, ho5⟩ : ∃ o, o = up o4 w4.heap.size 3 := ⟨_, rfl⟩
                rw [← ho5] at HT5 HU5 HV5 HW5
                obtain ⟨hb2, hc2, he, hcx5, hfx5⟩ := row_at HV5.out hkl
                simp only [Value.slice.injEq, Option.some.injEq, Addr.mk.injEq] at he
                have he1 := he.1.1
                subst he1
                have hcl5 := row_cell HV5.out (i := n1) (by have := HN1.out; omega)
                obtain ⟨y, hy⟩ : ∃ y, y = hs.getD n1 0 := ⟨_, rfl⟩
                rw [← hy] at hcl5
                have HY := Aside0.mk hy
                have HP := Aside0.mk (put_own HV5.out (Nat.le_trans HBA.out HB5.out.size) k y)
                have HT6 := Aside0.mk (TB_pass HT5.out HP.out.2 (by decide))
                have HU6 := Aside0.mk (Pr.TB_pass HU5.out HP.out.2 (by decide))
                have HW6 := Aside0.mk (R_pass HW5.out HP.out.2 (by decide))
                have HV6 := Aside0.mk HP.out.1
                have HB6 := Aside0.mk (HB5.out.trans HP.out.2.b)
                obtain ⟨o6, ho6⟩ : ∃ o, o = up o5 w5.heap.size 1 := ⟨_, rfl⟩
                rw [← ho6] at HT6 HU6 HV6 HW6
                obtain ⟨W6, hW6⟩ : ∃ W, W = w5.setCell ⟨hb, k, none⟩ (.int .u64 y) := ⟨_, rfl⟩
                rw [← hW6] at HT6 HU6 HV6 HW6 HB6
                clear hU5 hF5 ho5 HD HT4 HU4 HV4 HW4 HB4 HP ho6 HT5 HU5 HV5 HW5 HB5 hcx4 he hy
                obtain ⟨vb2, vc2, he, hcv6, hfv6⟩ := row_at HW6.out hkv
                simp only [Value.slice.injEq, Option.some.injEq, Addr.mk.injEq] at he
                have he1 := he.1.1
                subst he1
                have hcm6 := row_cell HW6.out (i := n1) (by have := HV1.out; omega)
                obtain ⟨z, hz⟩ : ∃ z, z = vs.getD n1 0 := ⟨_, rfl⟩
                rw [← hz] at hcm6
                have HZ := Aside0.mk hz
                have HP := Aside0.mk (put_own HW6.out (Nat.le_trans HBA.out HB6.out.size) k z)
                have HT7 := Aside0.mk (TB_pass HT6.out HP.out.2 (by decide))
                have HU7 := Aside0.mk (Pr.TB_pass HU6.out HP.out.2 (by decide))
                have HV7 := Aside0.mk (R_pass HV6.out HP.out.2 (by decide))
                have HW7 := Aside0.mk HP.out.1
                have HB7 := Aside0.mk (HB6.out.trans HP.out.2.b)
                have HCH := Aside0.mk (cut_last (t := 26) (e := 27) Try.underlying26 HV7.out (by simp) n1 (by simp; have := HN1.out; omega) info27)
                have HCV := Aside0.mk (cut_last (t := 29) (e := 3) Try.underlying29 HW7.out (by simp) n1 (by simp; have := HV1.out; omega) info3)
                have hch := HCH.out.1
                have hcv := HCV.out.1
                rw [hW6] at hcv6 hfv6 hcm6
                clear he hz HT6 HU6 HV6 HW6 HB6 HP
                go_wp2
                rw [← hW6]
                go_roundw
                case rel => exact ⟨q + 1, _, _, _, (hs.set k y).take n1, (vs.set k z).take n1, _, by omega, by go_num, ⟨by have h := HI2.out; rw [show hs.length - 1 = n1 from by have := HN1.out; omega, show vs.length - 1 = n1 from by have := HV1.out; omega, ← HY.out, ← HZ.out] at h; exact h⟩, HT7, HU7, ⟨HCH.out.2⟩, ⟨HCV.out.2⟩, HB7⟩
                case measure => simp [intOf]; omega
              · have HI2 := Aside0.mk (hI.out.keep hq1)
                go_upto_if 37 with (fail)
                rw [← HWW.out, ← HAB.out]
                clear e0 e1 e2 e3
                have b0 := blk4_0 HA0.out
                have b1 := blk4_1 HA0.out
                go_wp2
                go_roundw
                case rel => exact ⟨q + 1, sl, sp, fr, hs, vs, o0, by omega, by go_num, HI2, HT0, HU0, HV0, HW0, HB0⟩
                case measure => simp [intOf]; omega
      · have hqe : q = acts.length := by omega
        have hnq : ¬ (q : Int) < (acts.length : Int) := by omega
        have hhl := hI.out.hq
        have hhv := hI.out.hl
        have hn80 : hs.length ≤ 80 := by omega
        have HHV := Aside0.mk hhv
        obtain ⟨W2, rfl⟩ : ∃ o : World, o = wr := ⟨_, rfl⟩
        have hxy := neq_xy
        clear hhl hhv hqe
        go_wp2_with fail
        go_loopw [12] (fun i wr => ∃ j : Nat, j ≤ hs.length ∧ i = .int .i64 j ∧ Aside0 (Below W2.heap.size W2 wr)) (fun i _ => hs.length - (intOf i).toNat)
        case atStart => exact ⟨0, Nat.zero_le _, rfl, ⟨Below.refl _ _⟩⟩
        case round =>
          obtain ⟨j, hj, rfl, hB3⟩ := hrel
          have HT3 := Aside0.mk (hT.out.below hB3.out)
          have HU3 := Aside0.mk (hU.out.below hB3.out)
          have HV3 := Aside0.mk (Kd.R_below hV.out hB3.out)
          have HW3 := Aside0.mk (Kd.R_below hW.out hB3.out)
          by_cases hjl : j < hs.length
          · obtain ⟨hb, hc, he, hcx, _⟩ := row_at HV3.out hjl
            simp only [Value.slice.injEq, true_and] at he
            obtain ⟨he1, he2⟩ := he
            subst he1 he2
            obtain ⟨vb, vc, he, hcv, _⟩ := row_at HW3.out (i := j) (by have := HHV.out; omega)
            simp only [Value.slice.injEq, true_and] at he
            obtain ⟨he1, he2⟩ := he
            subst he1 he2
            obtain ⟨x, hx⟩ : ∃ x, x = hs.getD j 0 := ⟨_, rfl⟩
            obtain ⟨y, hy⟩ : ∃ y, y = vs.getD j 0 := ⟨_, rfl⟩
            obtain ⟨l1, l2, l3, l4⟩ := hI.out.lv j hjl
            rw [← hx] at hcx l1 l2 l3 l4
            rw [← hy] at hcv l4
            have hG := get_own HT3.out x l1 l2 l3
            rw [l4] at hG
            have HG := Aside0.mk hG
            have l3' : lvS 1 (Pr.sk sp) x = true := by rw [hI.out.same]; exact l3
            have hxyf : (sp.getD (ixn x) Pr.z95).f0 = (⟨#[120]⟩, ⟨#[121]⟩) := by
              have hu := (lvS_iff.1 l3').2.2.1
              rw [Pr.sk_getD] at hu
              exact hI.out.xy _ hu
            have HP := Aside0.mk (fun (W : World) (hW : Below wr.heap.size wr W) => by
              have := Pr.get_own (HU3.out.below hW) x l1 l2 l3'
              rw [hxyf] at this
              exact this)
            have hj1 : 0 ≤ (j : Int) ∧ (j : Int) < (hs.length : Int) := by omega
            have hj2 : (j : Int) < (hs.length : Int) := by omega
            have hj3 : 0 ≤ (j : Int) ∧ (j : Int) < (vs.length : Int) := by have := HHV.out; omega
            have hj4 : (j : Int) < (vs.length : Int) := by have := HHV.out; omega
            clear hx hy l1 l2 l3 l4 l3' hxyf hG
            go_wp2_with fail
            refine HG.out.mono ?_
            rintro e w4 ⟨rfl, hb4⟩
            have HB4 := Aside0.mk hb4
            replace hcx := pw_cell_below hb4 hcx
            replace hcv := pw_cell_below hb4 hcv
            clear hb4
            go_wp2_with fail
            refine (HP.out _ HB4.out).mono ?_
            rintro e w5 ⟨rfl, hb5⟩
            have HB5 := Aside0.mk hb5
            have hvlt := World.block_lt_of_cell? w4 _ hcv
            replace hcv := pw_cell_below hb5 hcv
            have hvlt5 : vb < w5.heap.size := Nat.lt_of_lt_of_le hvlt hb5.size
            clear hb5 hcx hvlt
            go_wp2
            go_roundw
            case rel => exact ⟨j + 1, by omega, by go_num, ⟨below_alloc (below_step (below_step hB3.out HB4.out) HB5.out) _⟩⟩
            case measure => simp [intOf]; omega
          · have hnj : ¬ (j : Int) < (hs.length : Int) := by omega
            have HCN := Aside0.mk (hI.out.good.count 1)
            have HCT := Aside0.mk hI.out.count
            have HLN := Aside0.mk (show (hS 1 (sk sl) 0).length = hs.length by have h1 := HCN.out; have h2 := HCT.out; rw [sk_length] at h1; omega)
            have HL := Aside0.mk (len_own HT3.out)
            rw [HCT.out] at HL
            go_wp2_with fail
            refine HL.out.mono ?_
            rintro e w4 ⟨rfl, hb4⟩
            have HB4 := Aside0.mk hb4
            clear hb4
            go_wp2_with fail
            refine (handles_own (HT3.out.below HB4.out) hI.out.good (by omega)).mono ?_
            rintro e w5 ⟨v5, rfl, hR5, hb5⟩
            obtain ⟨A5, c5, rfl⟩ := Kd.R_slice hR5
            rw [HLN.out]
            have HB5 := Aside0.mk hb5
            clear hb5 hR5
            go_wp2_with fail
            refine (handles_own ((HT3.out.below HB4.out).below HB5.out) hI.out.good (by omega)).mono ?_
            rintro e w6 ⟨v6, rfl, hR6, hb6⟩
            have HR6 := Aside0.mk hR6
            have HB6 := Aside0.mk hb6
            have HGP := Aside0.mk (show Good (Pr.sk sp) fr by rw [hI.out.same]; exact hI.out.good)
            clear hb6 hR6
            go_wp2_with fail
            refine (Pr.handles_own (((HU3.out.below HB4.out).below HB5.out).below HB6.out) HGP.out (by omega)).mono ?_
            rw [hI.out.same]
            rintro e w7 ⟨v7, rfl, hR7, hb7⟩
            have HR7 := Aside0.mk hR7
            have HB7 := Aside0.mk hb7
            clear hb7 hR7
            go_wp2_with fail
            refine (same_rows (Kd.R_below HR6.out HB7.out) HR7.out (by rw [HLN.out]; omega)).mono ?_
            rintro e w8 ⟨rfl, hb8⟩
            have HB8 := Aside0.mk hb8
            clear hb8
            go_wp2
            go_ret
            refine ⟨rfl, ?_⟩
            have h9 := below_step (below_step (below_step (below_step (below_step hB3.out HB4.out) HB5.out) HB6.out) HB7.out) HB8.out
            have h10 := hB.out.trans (h9.mono (Nat.le_trans HBA.out hB.out.size))
            rw [HBE.out] at h10
            exact h10
end Go.Proofs.Ytgcbfbdhibbpdaa.Tb
