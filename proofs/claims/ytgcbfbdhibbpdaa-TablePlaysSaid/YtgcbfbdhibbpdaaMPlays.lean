/- TablePlays, walked by hand: whatever is added, got, set and dropped, each answer, and all handles, are the document's, step by step. -/
import Derived.Test.YtgcbfbdhibbpdaaMPlays0
set_option linter.unusedVariables false
set_option linter.unusedSimpArgs false
namespace Go.Proofs.Ytgcbfbdhibbpdaa.Tb
open Go.ChangeShapes Go.RowKit Go.Proofs.YtgcbfbdhibbpdaaW.PrintWords Go.Proofs.YtgcbfbdhibbpdaaW.PrintLast Go.Proofs.YtgcbfbdhibbpdaaW.PrintMore
attribute [local go_sem] max2_int min2_int
set_option maxRecDepth 100000 in
set_option maxHeartbeats 32000000 in
theorem plays_walk (kd : Int) (A : Option Addr) (c : Nat) (acts : List Act4) (w : World) (hkd : -9223372036854775808 ≤ kd ∧ kd ≤ 9223372036854775807) (hC : ActC w A acts) (hwf : ∀ q ∈ acts, q.ok) :
    Calls Try.prog 6 #[.int .i64 kd, .slice A acts.length c] w fun e w' => e = .returned (.bool true) ∧ Below w.heap.size w w' := by
  have HC := Aside0.mk hC
  have HWF := Aside0.mk hwf
  have HKD := Aside0.mk hkd
  obtain ⟨base, hbs⟩ : ∃ b, b = w.heap.size := ⟨_, rfl⟩
  have HBA := Aside0.mk (Nat.le_of_eq hbs)
  have HBE := Aside0.mk hbs
  clear hbs hC hwf hkd
  by_cases hlen : 80 < acts.length
  · have h80 : (80 : Int) < (acts.length : Int) := by omega
    go_enter Try.func6, Try.ntmps6
    go_wp2_with fail
    refine (awake_calls w).mono ?_
    rintro e w1 ⟨rfl, hb1⟩
    have HB1 := Aside0.mk hb1
    clear hb1
    go_wp2_with fail
    go_ret
    exact ⟨rfl, HB1.out⟩
  · have h80 : ¬ (80 : Int) < (acts.length : Int) := by omega
    go_enter Try.func6, Try.ntmps6
    go_wp2_with fail
    refine (awake_calls w).mono ?_
    rintro e w1 ⟨rfl, hb1⟩
    have HB1 := Aside0.mk hb1
    clear hb1
    go_wp2_with fail
    refine (new_calls kd w1 base (tg own0 0) (Nat.le_trans HBA.out HB1.out.size) (fun _ _ => rfl)).mono ?_
    rintro e w2 ⟨rfl, hT2, hF2⟩
    obtain ⟨g, hgw⟩ : ∃ g, g = w1.heap.size := ⟨_, rfl⟩
    rw [← hgw] at hT2
    rw [← hgw]
    have HT2 := Aside0.mk hT2
    have HB2 := Aside0.mk (show Below base w w2 from (HB1.out.mono HBA.out).trans hF2.b)
    clear hT2 hF2 hgw HB1
    have hbel3 : Below w2.heap.size w2 (w2.alloc (.cells #[.int .i64 kd, .slice none 0 0, .slice none 0 0] 53)) := below_alloc (Below.refl _ _) _
    have HT3 := Aside0.mk ((TB_up (j := 9) HT2.out).below hbel3)
    have HG3 := Aside0.mk (heap_alloc_new w2 (.cells #[.int .i64 kd, .slice none 0 0, .slice none 0 0] 53))
    have HB3 := Aside0.mk (HB2.out.trans (hbel3.mono (Nat.le_trans HBA.out HB2.out.size)))
    obtain ⟨W3, hW3⟩ : ∃ W, W = w2.alloc (.cells #[.int .i64 kd, .slice none 0 0, .slice none 0 0] 53) := ⟨_, rfl⟩
    obtain ⟨gw, hgw⟩ : ∃ b, b = w2.heap.size := ⟨_, rfl⟩
    obtain ⟨o3, ho3⟩ : ∃ o, o = up own0 w2.heap.size 9 := ⟨_, rfl⟩
    have HO3 := Aside0.mk (show o3 gw = 9 by rw [ho3, hgw]; exact up_new (Nat.le_refl _))
    rw [← ho3] at HT3
    rw [← hW3] at HT3 HG3 HB3
    rw [← hgw] at HG3
    have HWW3 := Aside0.mk hW3
    have HGW3 := Aside0.mk hgw
    have HGB := Aside0.mk (show base ≤ gw by rw [hgw]; exact Nat.le_trans HBA.out HB2.out.size)
    clear hW3 hgw ho3 hbel3 HT2 HB2
    go_wp2_with fail
    rw [← HWW3.out, ← HGW3.out]
    go_loopw [9, 10] (fun vt i wr => ∃ (q : Nat) (sl : List S76) (fr told : List Int) (vs vf : Value) (own : Nat → Nat), q ≤ acts.length ∧ i = .int .i64 q ∧ Aside0 (InvP q kd sl fr told) ∧ Aside0 (TB wr base (tg own 0) g kd sl fr) ∧ Aside0 (RS wr base own 3 vs vf sl fr) ∧ Aside0 ((Kd.int .u64).R 27 wr base (tg own 1) vt told) ∧ Aside0 (wr.heap[gw]? = some (.cells #[.int .i64 kd, vs, vf] 53 (0, 0))) ∧ Aside0 (own gw = 9) ∧ Aside0 (Below base w wr)) (fun _ i _ => acts.length - (intOf i).toNat)
    case atStart => exact ⟨0, [], [], [], .slice none 0 0, .slice none 0 0, o3, Nat.zero_le _, rfl, ⟨InvP.start kd⟩, HT3, ⟨⟨Kd.R_nil _ _ _ _ _, Kd.R_nil _ _ _ _ _⟩⟩, ⟨Kd.R_nil _ _ _ _ _⟩, HG3, HO3, HB3⟩
    case round =>
      clear HT3 HG3 HO3 HB3 HWW3 HGW3
      obtain ⟨q, sl, fr, told, vs, vf, own, hq, rfl, hI, hT, hR, hV, hG, hO, hB⟩ := hrel
      obtain ⟨At, ct, hv⟩ := Kd.R_slice hV.out
      subst hv
      by_cases hlt : q < acts.length
      · obtain ⟨ad, hA, hcell⟩ := HC.out (by omega)
        subst hA
        obtain ⟨e0, e1, e2, e3⟩ := hcell q _ (List.getElem?_eq_getElem hlt)
        have hok := HWF.out _ (List.getElem_mem hlt)
        obtain ⟨a, ha⟩ : ∃ a, a = acts[q] := ⟨_, rfl⟩
        rw [← ha] at e0 e1 e2 e3 hok
        have hblt := World.block_lt_of_cell? w _ e0
        replace e0 := (hB.out.cell (by rw [HBE.out]; exact hblt)).trans e0
        replace e1 := (hB.out.cell (p := ⟨(ad.add (q * 4)).block, (ad.add (q * 4)).off + 1, none⟩) (by rw [HBE.out]; exact hblt)).trans e1
        replace e2 := (hB.out.cell (p := ⟨(ad.add (q * 4)).block, (ad.add (q * 4)).off + 2, none⟩) (by rw [HBE.out]; exact hblt)).trans e2
        replace e3 := (hB.out.cell (p := ⟨(ad.add (q * 4)).block, (ad.add (q * 4)).off + 3, none⟩) (by rw [HBE.out]; exact hblt)).trans e3
        have hin1 : 0 ≤ (q : Int) ∧ (q : Int) < (acts.length : Int) := by omega
        have hin2 : (q : Int) < (acts.length : Int) := by omega
        have hop := hok.1
        have hwh := hok.2.1
        have hah := hok.2.2.1
        have hav := Aside0.mk hok.2.2.2
        obtain ⟨op, hopp⟩ : ∃ x, x = a.op := ⟨_, rfl⟩
        obtain ⟨wh, hwhh⟩ : ∃ x, x = a.wh := ⟨_, rfl⟩
        obtain ⟨ah, hahh⟩ : ∃ x, x = a.h := ⟨_, rfl⟩
        obtain ⟨av, havv⟩ : ∃ x, x = a.v := ⟨_, rfl⟩
        rw [← hopp] at e0 hop
        rw [← hwhh] at e1 hwh
        rw [← hahh] at e2 hah
        rw [← havv] at e3 hav
        clear hcell ha hblt hok hopp hwhh hahh havv
        have hq1 : q + 1 ≤ 80 := by omega
        have hbelow : Below wr.heap.size wr (wr.alloc (.cells #[.int .u8 op, .int .u8 wh, .int .u64 ah, .int .i64 av] 39)) := below_alloc (Below.refl _ _) _
        have HA0 := Aside0.mk (heap_alloc_new wr (.cells #[.int .u8 op, .int .u8 wh, .int .u64 ah, .int .i64 av] 39))
        have HT0 := Aside0.mk ((TB_up (j := 9) hT.out).below hbelow)
        have HR0 := Aside0.mk ((hR.out.lift (i := 9)).below hbelow)
        have HV0 := Aside0.mk (R_stay (j := 9) hV.out hbelow)
        have hglt := (Array.getElem?_eq_some_iff.1 hG.out).1
        have HG0 := Aside0.mk ((hbelow.block _ hglt).trans hG.out)
        have HO0 := Aside0.mk (up_keep (j := 9) hO.out hglt)
        have HB0 := Aside0.mk (hB.out.trans (hbelow.mono (Nat.le_trans HBA.out hB.out.size)))
        obtain ⟨W0, hW0⟩ : ∃ W, W = wr.alloc (.cells #[.int .u8 op, .int .u8 wh, .int .u64 ah, .int .i64 av] 39) := ⟨_, rfl⟩
        obtain ⟨ab, hab⟩ : ∃ b, b = wr.heap.size := ⟨_, rfl⟩
        obtain ⟨o0, ho0⟩ : ∃ o, o = up own wr.heap.size 9 := ⟨_, rfl⟩
        have HO9 := Aside0.mk (show o0 ab = 9 by rw [ho0, hab]; exact up_new (Nat.le_refl _))
        have HNE := Aside0.mk (show gw ≠ ab by rw [hab]; omega)
        have HABB := Aside0.mk (show base ≤ ab by rw [hab]; exact Nat.le_trans HBA.out hB.out.size)
        rw [← ho0] at HT0 HR0 HV0 HO0
        rw [← hW0] at HA0 HT0 HR0 HV0 HG0 HB0
        rw [← hab] at HA0
        have HWW := Aside0.mk hW0
        have HAB := Aside0.mk hab
        have htl := hI.out.tlen
        have ht80 : told.length ≤ 80 := by omega
        have HTR := Aside0.mk hI.out.tr
        clear htl hW0 hab ho0 hbelow hT hR hV hG hO hB hglt
        obtain ⟨hh, hhh⟩ : ∃ x, x = pick ah wh told := ⟨_, rfl⟩
        have HHH := Aside0.mk (show 0 ≤ hh ∧ hh < 18446744073709551616 by rw [hhh]; exact pick_range ah wh told (by omega) HTR.out)
        go_upto_region 15 with (fail)
        rw [← HWW.out, ← HAB.out]
        clear e0 e1 e2 e3
        have b1 := blk4_1 HA0.out
        obtain ⟨bb, hbb⟩ : ∃ b : Bool, b = (decide (ah = 0) && decide (0 < told.length)) := ⟨_, rfl⟩
        go_cut [52] (fun s52 wx => s52 = .bool bb ∧ wx = W0)
        case first =>
          by_cases c1 : ah = 0
          · subst c1
            by_cases c2 : 0 < told.length
            · have c3 : (0 : Int) < (told.length : Int) := by omega
              rw [decide_eq_true c2] at hbb
              have E := Aside0.mk hbb
              clear hbb hhh
              go_wp2_with fail
              go_meet
              exact ⟨by rw [E.out]; rfl, rfl⟩
            · have c3 : ¬ (0 : Int) < (told.length : Int) := by omega
              rw [decide_eq_false c2] at hbb
              have E := Aside0.mk hbb
              clear hbb hhh
              go_wp2_with fail
              go_meet
              exact ⟨by rw [E.out]; rfl, rfl⟩
          · rw [decide_eq_false c1] at hbb
            have E := Aside0.mk hbb
            clear hbb hhh
            go_wp2_with fail
            go_meet
            exact ⟨by rw [E.out]; rfl, rfl⟩
        case rest =>
        obtain ⟨rfl, hwc⟩ := hcut
        obtain rfl : W0 = wc := hwc.symm
        go_upto_if 52 with (fail)
        go_cut [12] (fun s12 wx => s12 = .int .u64 hh ∧ wx = W0)
        case first =>
          cases bb with
          | true =>
            have hb2 := hbb.symm
            simp only [Bool.and_eq_true, decide_eq_true_eq] at hb2
            obtain ⟨c1, c2⟩ := hb2
            subst c1
            have c3 : (0 : Int) < (told.length : Int) := by omega
            obtain ⟨k, hk⟩ : ∃ k : Nat, wh % (told.length : Int) = k := ⟨(wh % (told.length : Int)).toNat, by have := Int.emod_nonneg wh (show (told.length : Int) ≠ 0 by omega); omega⟩
            have hkl : k < told.length := by have := Int.emod_lt_of_pos wh (show (0 : Int) < told.length by omega); omega
            have hk1 : 0 ≤ (k : Int) ∧ (k : Int) < (told.length : Int) := by omega
            have hk2 : (k : Int) < (told.length : Int) := by omega
            obtain ⟨tb, tc, he, hcx, _⟩ := row_at HV0.out hkl
            simp only [Value.slice.injEq, true_and] at he
            obtain ⟨he1, he2⟩ := he
            subst he1 he2
            rw [show told.getD k 0 = hh by rw [hhh]; unfold pick; rw [if_pos ⟨rfl, c2⟩, hk, Int.toNat_natCast]] at hcx
            clear hhh hbb
            go_wp2_with fail
            go_meet
            exact ⟨rfl, rfl⟩
          | false =>
            have hb2 : ¬ (ah = 0 ∧ 0 < told.length) := by
              have := hbb.symm
              simpa using this
            have E := Aside0.mk (show hh = ah by rw [hhh]; unfold pick; rw [if_neg hb2])
            clear hhh hbb hb2
            go_wp2_with fail
            go_meet
            exact ⟨by rw [E.out], rfl⟩
        case rest =>
          obtain ⟨rfl, hwc⟩ := hcut
          obtain rfl : W0 = wc := hwc.symm
          clear hhh hbb b1
          have b0 := blk4_0 HA0.out
          have b3 := blk4_3 HA0.out
          obtain ⟨B1, p1, hv⟩ := Kd.R_slice HR0.out.s
          subst hv
          obtain ⟨B2, p2, hv⟩ := Kd.R_slice HR0.out.f
          subst hv
          rw [show (sl.map c58).length = sl.length by simp] at HR0 HG0
          obtain ⟨g0, g1, g2, gf0, gf1, gf2⟩ := ret53 HG0.out
          by_cases d0 : op = 0
          · subst d0
            as_aux_lemma =>
              have HD := Aside0.mk (r_add HBE.out HR0.out HB0.out hI.out av (Nat.le_trans HBA.out HB0.out.size))
              have HI2 := Aside0.mk (hI.out.add hq1 av)
              obtain ⟨hx, hhx⟩ : ∃ b, b = aH kd sl fr := ⟨_, rfl⟩
              obtain ⟨sl2, hsl2⟩ : ∃ o, o = aL kd sl fr av := ⟨_, rfl⟩
              obtain ⟨fr2, hfr2⟩ : ∃ o, o = aF kd fr := ⟨_, rfl⟩
              rw [← hhx, ← hsl2, ← hfr2] at HD HI2
              have HLB := Aside0.mk hhx
              have HSL := Aside0.mk hsl2
              have HFR := Aside0.mk hfr2
              have HR := HR0
              clear hhx hsl2 hfr2
              go_wp2_with fail
              refine HD.out.mono ?_
              rintro e w4 ⟨v1, v2, rfl, hR4, hF4⟩
              have HT4 := Aside0.mk (TB_pass HT0.out hF4 (by decide))
              have HV4 := Aside0.mk (R_pass HV0.out hF4 (by decide))
              have HG4 := Aside0.mk (blk_pass HG0.out HO0.out hF4 (by decide))
              have HO4 := Aside0.mk (up_keep (j := 3) HO0.out (Array.getElem?_eq_some_iff.1 HG0.out).1)
              have HA4 := Aside0.mk (blk_pass HA0.out HO9.out hF4 (by decide))
              have HO94 := Aside0.mk (up_keep (j := 3) HO9.out (Array.getElem?_eq_some_iff.1 HA0.out).1)
              have HB4 := Aside0.mk (HB0.out.trans hF4.b)
              obtain ⟨C1, r1, rfl⟩ := Kd.R_slice hR4.s
              obtain ⟨C2, r2, rfl⟩ := Kd.R_slice hR4.f
              rw [List.length_map] at hR4 ⊢
              have HR4 := Aside0.mk hR4
              obtain ⟨o4, ho4⟩ : ∃ o, o = up o0 W0.heap.size 3 := ⟨_, rfl⟩
              rw [← ho4] at HT4 HV4 HO4 HO94 HR4
              clear hR4 hF4 ho4 HT0 HR0 HV0 HG0 HA0 HB0 HO0 HO9 HR HWW HAB b0 b3 g0 g1 g2 gf0 gf1 gf2
              obtain ⟨_, _, _, gf0, gf1, gf2⟩ := ret53 HG4.out
              have hgl := (Array.getElem?_eq_some_iff.1 HG4.out).1
              obtain ⟨g0, g1, g2, _, _, _⟩ := ret53 HG4.out
              have b34 := blk4_3 HA4.out
              have hne1 : ¬ gw = ab := HNE.out
              have hne2 : ¬ ab = gw := Ne.symm HNE.out
              have habl := (Array.getElem?_eq_some_iff.1 HA4.out).1
              go_wp2_with fail
              clear b34 hne1 hne2 habl
              have HPU := Aside0.mk (put53 HG4.out HO4.out HGB.out (Nat.le_trans HBA.out HB4.out.size) (.cells #[.int .i64 kd, .slice C1 sl2.length r1, .slice C2 fr2.length r2] 53) (.int .i64 kd) (.slice C1 sl2.length r1) (.slice C2 fr2.length r2))
              obtain ⟨W5, hW5⟩ : ∃ W, W = ((((w4.setCell ⟨gw, 0, none⟩ (.int .i64 kd)).setCell ⟨gw, 1, none⟩ (.slice C1 sl2.length r1)).setCell ⟨gw, 2, none⟩ (.slice C2 fr2.length r2)).alloc (.cells #[.int .i64 kd, .slice C1 sl2.length r1, .slice C2 fr2.length r2] 53)) := ⟨_, rfl⟩
              rw [← hW5] at HPU ⊢
              have HT5 := Aside0.mk (TB_pass HT4.out HPU.out.1 (by decide))
              have HR5 := Aside0.mk (HR4.out.pass HPU.out.1 (by decide))
              have HV5 := Aside0.mk (R_pass HV4.out HPU.out.1 (by decide))
              have HG5 := Aside0.mk HPU.out.2.1
              have HO5 := Aside0.mk (up_keep (j := 9) HO4.out hgl)
              have HA5 := Aside0.mk (HPU.out.2.2 _ _ (Ne.symm HNE.out) HA4.out)
              have HO95 := Aside0.mk (up_keep (j := 9) HO94.out (Array.getElem?_eq_some_iff.1 HA4.out).1)
              have HB5 := Aside0.mk (HB4.out.trans HPU.out.1.b)
              obtain ⟨o5, ho5⟩ : ∃ o, o = up o4 w4.heap.size 9 := ⟨_, rfl⟩
              rw [← ho5] at HT5 HR5 HV5 HO5 HO95
              clear hW5 ho5 HPU HT4 HR4 HV4 HG4 HO4 HA4 HO94 HB4 g0 g1 g2 gf0 gf1 gf2 hgl
              have HD := Aside0.mk (t_add HT5.out hI.out HKD.out av (Nat.le_trans HBA.out HB5.out.size))
              rw [← HLB.out, ← HSL.out, ← HFR.out] at HD
              refine HD.out.mono ?_
              rintro e w6 ⟨rfl, hT6, hF6⟩
              have HT6 := Aside0.mk hT6
              have HR6 := Aside0.mk (HR5.out.pass hF6 (by decide))
              have HV6 := Aside0.mk (R_pass HV5.out hF6 (by decide))
              have HG6 := Aside0.mk (blk_pass HG5.out HO5.out hF6 (by decide))
              have HO6 := Aside0.mk (up_keep (j := 0) HO5.out (Array.getElem?_eq_some_iff.1 HG5.out).1)
              have HA6 := Aside0.mk (blk_pass HA5.out HO95.out hF6 (by decide))
              have HB6 := Aside0.mk (HB5.out.trans hF6.b)
              obtain ⟨own7, ho6⟩ : ∃ o, o = up o5 W5.heap.size 0 := ⟨_, rfl⟩
              rw [← ho6] at HT6 HR6 HV6 HO6
              clear hT6 hF6 ho6 HT5 HR5 HV5 HG5 HO5 HA5 HO95 HB5
              have c6 := blk4_3 HA6.out
              go_wp2_with fail
              refine (add_nil av w6).mono ?_
              rintro e w9 ⟨rfl, hb9⟩
              have HT9 := Aside0.mk (HT6.out.below hb9)
              have HR9 := Aside0.mk (HR6.out.below hb9)
              have HV9 := Aside0.mk (Kd.R_below HV6.out hb9)
              have HG9 := Aside0.mk ((hb9.block _ (Array.getElem?_eq_some_iff.1 HG6.out).1).trans HG6.out)
              have HB9 := Aside0.mk (HB6.out.trans (hb9.mono (Nat.le_trans HBA.out HB6.out.size)))
              obtain ⟨o9, ho9⟩ : ∃ o, o = own7 := ⟨_, rfl⟩
              rw [← ho9] at HT9 HR9 HV9 HO6
              clear hb9 ho9 c6 HT6 HR6 HV6 HG6 HA6 HB6
              go_wp2_with (at_builtin; refine app_own (Kd.int .u64) base rfl _ _ 26 27 _ 8 rfl Try.underlying26 info27 rfl (show 0 < 1 by decide) (by decide) (.slice At told.length ct) told hx [.int .u64 hx] o9 1 rfl (by first | rfl | (go_simp; done) | (simp; done)) rfl HV9.out (Nat.le_trans HBA.out HB9.out.size) (by omega) ?_; intro v1 W7 hR7 hF7; obtain ⟨told2, htold2⟩ : ∃ o, o = told ++ [hx] := ⟨_, rfl⟩; rw [← htold2] at hR7; obtain ⟨At2, ct2, hv7⟩ := Kd.R_slice hR7; subst hv7; have HTO := Aside0.mk htold2; clear htold2; have HV7 := Aside0.mk hR7; have HF7 := Aside0.mk hF7; clear hR7 hF7)
              rw [← HTO.out] at HI2
              have HT7 := Aside0.mk (TB_pass HT9.out HF7.out (by decide))
              have HR7 := Aside0.mk (HR9.out.pass HF7.out (by decide))
              have HG7 := Aside0.mk (blk_pass HG9.out HO6.out HF7.out (by decide))
              have HO7 := Aside0.mk (up_keep (j := 1) HO6.out (Array.getElem?_eq_some_iff.1 HG9.out).1)
              have HB7 := Aside0.mk (HB9.out.trans HF7.out.b)
              obtain ⟨own8, ho8⟩ : ∃ o, o = up o9 w9.heap.size 1 := ⟨_, rfl⟩
              rw [← ho8] at HT7 HR7 HV7 HO7
              clear ho8 HF7 HT9 HR9 HV9 HG9 HB9 HO6
              obtain ⟨g0, g1, g2, _, _, _⟩ := ret53 HG7.out
              have hsl7 : sl2.length ≤ 200 := by have := HI2.out.good.len; rw [sk_length] at this; exact this
              have hfr7 : fr2.length ≤ 200 := HI2.out.good.flen
              have hsi7 : (sl2.length : Int) ≤ 200 := by omega
              have hfi7 : (fr2.length : Int) ≤ 200 := by omega
              go_wp2
              have q3 : ∀ W, Below W7.heap.size W7 W → W.cell? ⟨gw, 0, none⟩ = some (.int .i64 kd) := fun W h => pw_cell_below h g0
              have q4 : ∀ W, Below W7.heap.size W7 W → W.cell? ⟨gw, 1, none⟩ = some (.slice C1 sl2.length r1) := fun W h => pw_cell_below h g1
              have q5 : ∀ W, Below W7.heap.size W7 W → W.cell? ⟨gw, 2, none⟩ = some (.slice C2 fr2.length r2) := fun W h => pw_cell_below h g2
              have hB00 : Below W7.heap.size W7 W7.drew := below_drew (Below.refl _ _)
              have HLN := Aside0.mk (Nat.le_trans (hS_len HI2.out) (show 200 ≤ 1000000 by decide))
              obtain ⟨ln, hln⟩ : ∃ n, n = (hS kd (sk sl2) 0).length := ⟨_, rfl⟩
              have HQH := Aside0.mk (fun (W1 : World) (hb : Below W7.heap.size W7 W1) => q_handles HT7.out HI2.out HKD.out hb)
              have HQR := Aside0.mk (fun (W1 : World) (hb : Below W7.heap.size W7 W1) => q_rhandles HR7.out HI2.out HKD.out hb)
              rw [← hln] at HLN HQH HQR
              have HLE := Aside0.mk hln
              obtain ⟨dd, hdd⟩ : ∃ d, (sl2.length : Int) - (fr2.length : Int) = d := ⟨_, rfl⟩
              have HQL := Aside0.mk (fun (W1 : World) (hb : Below W7.heap.size W7 W1) => q_len HT7.out hb)
              rw [hdd] at HQL
              have hdw : IntKind.i64.wrap dd = dd := IntWalk.i64_in _ (by omega)
              clear g0 g1 g2 hln
              go_region_held3 (fun w' => Below W7.heap.size W7 w')
                (first | assumption | exact below_step (by assumption) hb5)
                ((first
                  | (go_at_call 13; (with_reducible refine (HQL.out _ (by assumption)).mono ?_); rintro e w5 ⟨rfl, hb5⟩; (try replace HC8 := Aside0.mk (Kd.C_below HC8.out hb5)); (try replace HC9 := Aside0.mk (Kd.C_below HC9.out hb5)))
                  | (go_at_call 28; (with_reducible refine (HQH.out _ (by assumption)).mono ?_); rintro e w5 ⟨A8, c8, rfl, hc8, hC8, hb5⟩; (try replace HC9 := Aside0.mk (Kd.C_below HC9.out hb5)); have HC8 := Aside0.mk hC8; have HCC8 := Aside0.mk hc8; clear hC8 hc8)
                  | (go_at_call 29; (with_reducible refine (HQR.out _ (by assumption)).mono ?_); rintro e w5 ⟨A9, c9, rfl, hc9, hC9, hb5⟩; (try replace HC8 := Aside0.mk (Kd.C_below HC8.out hb5)); have HC9 := Aside0.mk hC9; have HCC9 := Aside0.mk hc9; clear hC9 hc9)
                  | (go_at_call 27; (with_reducible refine (q_same HLE.out HC8.out HCC8.out HC9.out HCC9.out HLN.out).mono ?_); rintro e w5 ⟨rfl, hb5⟩)))
              rename_i hHeld
              have HT8 := Aside0.mk (HT7.out.below hHeld)
              have HR8 := Aside0.mk (HR7.out.below hHeld)
              have HV8 := Aside0.mk (Kd.R_below HV7.out hHeld)
              have HG8 := Aside0.mk ((hHeld.block _ (Array.getElem?_eq_some_iff.1 HG7.out).1).trans HG7.out)
              have HB8 := Aside0.mk (HB7.out.trans (hHeld.mono (Nat.le_trans HBA.out HB7.out.size)))
              clear hHeld q3 q4 q5 hB00 hdd hdw
              go_wp2
              go_roundw
              case rel => exact ⟨q + 1, sl2, fr2, told2, _, _, own8, by omega, by go_num, HI2, HT8, HR8, HV8, HG8, HO7, HB8⟩
              case measure => simp [intOf]; omega
          · by_cases d1 : op = 1
            · subst d1
              as_aux_lemma =>
                have HQL0 := Aside0.mk (fun (W : World) (hW : Below W0.heap.size W0 W) => live_own (HR0.out.below hW) kd hh hI.out.kind' hI.out.good HHH.out.1 HHH.out.2)
                have HI2 := Aside0.mk (hI.out.keep hq1)
                cases hlv : lvS kd (sk sl) hh with
                | true => as_aux_lemma =>
                  have hix := (lvS_iff.1 hlv).2.1
                  rw [sk_length] at hix
                  have HG0X := Aside0.mk (get_own HT0.out hh HHH.out.1 HHH.out.2 hlv)
                  rw [show liveI kd sl hh = ixn hh by unfold liveI; rw [if_pos hlv]] at HQL0
                  obtain ⟨i, hi⟩ : ∃ i, i = ixn hh := ⟨_, rfl⟩
                  rw [← hi] at HQL0 HG0X hix
                  obtain ⟨x0, hx0⟩ : ∃ x, x = (sl.getD i z76).f0 := ⟨_, rfl⟩
                  rw [← hx0] at HG0X
                  have HX0 := Aside0.mk hx0
                  have hi1 : 0 ≤ (i : Int) ∧ (i : Int) < (sl.length : Int) := by omega
                  have hi2 : (i : Int) < (sl.length : Int) := by omega
                  have hi3 : ¬ (i : Int) < 0 := by omega
                  have hi4 : 0 ≤ (i : Int) := by omega
                  clear hlv hi hx0 g0 g1 g2
                  go_wp2_with fail
                  refine HG0X.out.mono ?_
                  rintro e w4 ⟨rfl, hb4⟩
                  have HB4 := Aside0.mk hb4
                  have hg4 := (hb4.block _ (Array.getElem?_eq_some_iff.1 HG0.out).1).trans HG0.out
                  obtain ⟨g0, g1, g2, _, _, _⟩ := ret53 hg4
                  clear hg4 hb4
                  go_wp2_with fail
                  refine (HQL0.out w4 HB4.out).mono ?_
                  rintro e w5 ⟨rfl, hb5⟩
                  have HB5 := Aside0.mk hb5
                  clear hb5 g0 g1 g2
                  go_wp2_with fail
                  refine (get_nil hh HHH.out.1 HHH.out.2 w5).mono ?_
                  rintro e W7 ⟨rfl, hb6⟩
                  have HB6 := Aside0.mk hb6
                  clear hb6
                  have hb7 : Below W0.heap.size W0 W7 := below_step (below_step HB4.out HB5.out) HB6.out
                  have HT7 := Aside0.mk (HT0.out.below hb7)
                  have HR7 := Aside0.mk (HR0.out.below hb7)
                  have HV7 := Aside0.mk (Kd.R_below HV0.out hb7)
                  have HG7 := Aside0.mk ((hb7.block _ (Array.getElem?_eq_some_iff.1 HG0.out).1).trans HG0.out)
                  have HO7 := HO0
                  have HB7 := Aside0.mk (HB0.out.trans (hb7.mono (Nat.le_trans HBA.out HB0.out.size)))
                  obtain ⟨g0, g1, g2, gf0, gf1, gf2⟩ := ret53 HG7.out
                  obtain ⟨sb, c9, he, y0, _, _⟩ := k58_at HR7.out.s hix
                  simp only [Value.slice.injEq, true_and] at he
                  obtain ⟨he1, he2⟩ := he
                  subst he1 he2
                  rw [← HX0.out] at y0
                  have HY := Aside0.mk hi1
                  go_wp2
                  clear y0 hi1 hi2 hi3 hi4
                  clear hb7 HT0 HR0 HV0 HG0 HO0 HB0 HA0 HO9 b0 b3 g0 g1 g2 gf0 gf1 gf2 HB4 HB5 HB6
                  obtain ⟨told2, rfl⟩ : ∃ o : List Int, o = told := ⟨_, rfl⟩
                  obtain ⟨sl2, rfl⟩ : ∃ o : List S76, o = sl := ⟨_, rfl⟩
                  obtain ⟨fr2, rfl⟩ : ∃ o : List Int, o = fr := ⟨_, rfl⟩
                  obtain ⟨own7, rfl⟩ : ∃ o : Nat → Nat, o = o0 := ⟨_, rfl⟩
                  obtain ⟨C2, rfl⟩ : ∃ o : Option Addr, o = B2 := ⟨_, rfl⟩
                  obtain ⟨r1, rfl⟩ : ∃ o : Nat, o = p1 := ⟨_, rfl⟩
                  obtain ⟨r2, rfl⟩ : ∃ o : Nat, o = p2 := ⟨_, rfl⟩
                  obtain ⟨g0, g1, g2, _, _, _⟩ := ret53 HG7.out
                  have hsl7 : sl2.length ≤ 200 := by have := HI2.out.good.len; rw [sk_length] at this; exact this
                  have hfr7 : fr2.length ≤ 200 := HI2.out.good.flen
                  have hsi7 : (sl2.length : Int) ≤ 200 := by omega
                  have hfi7 : (fr2.length : Int) ≤ 200 := by omega
                  go_wp2
                  have q3 : ∀ W, Below W7.heap.size W7 W → W.cell? ⟨gw, 0, none⟩ = some (.int .i64 kd) := fun W h => pw_cell_below h g0
                  have q4 : ∀ W, Below W7.heap.size W7 W → W.cell? ⟨gw, 1, none⟩ = some (.slice (some ⟨sb, 0, none⟩) sl2.length r1) := fun W h => pw_cell_below h g1
                  have q5 : ∀ W, Below W7.heap.size W7 W → W.cell? ⟨gw, 2, none⟩ = some (.slice C2 fr2.length r2) := fun W h => pw_cell_below h g2
                  have hB00 : Below W7.heap.size W7 W7.drew := below_drew (Below.refl _ _)
                  have HLN := Aside0.mk (Nat.le_trans (hS_len HI2.out) (show 200 ≤ 1000000 by decide))
                  obtain ⟨ln, hln⟩ : ∃ n, n = (hS kd (sk sl2) 0).length := ⟨_, rfl⟩
                  have HQH := Aside0.mk (fun (W1 : World) (hb : Below W7.heap.size W7 W1) => q_handles HT7.out HI2.out HKD.out hb)
                  have HQR := Aside0.mk (fun (W1 : World) (hb : Below W7.heap.size W7 W1) => q_rhandles HR7.out HI2.out HKD.out hb)
                  rw [← hln] at HLN HQH HQR
                  have HLE := Aside0.mk hln
                  obtain ⟨dd, hdd⟩ : ∃ d, (sl2.length : Int) - (fr2.length : Int) = d := ⟨_, rfl⟩
                  have HQL := Aside0.mk (fun (W1 : World) (hb : Below W7.heap.size W7 W1) => q_len HT7.out hb)
                  rw [hdd] at HQL
                  have hdw : IntKind.i64.wrap dd = dd := IntWalk.i64_in _ (by omega)
                  clear g0 g1 g2 hln
                  go_region_held3 (fun w' => Below W7.heap.size W7 w')
                    (first | assumption | exact below_step (by assumption) hb5)
                    ((first
                      | (go_at_call 13; (with_reducible refine (HQL.out _ (by assumption)).mono ?_); rintro e w5 ⟨rfl, hb5⟩; (try replace HC8 := Aside0.mk (Kd.C_below HC8.out hb5)); (try replace HC9 := Aside0.mk (Kd.C_below HC9.out hb5)))
                      | (go_at_call 28; (with_reducible refine (HQH.out _ (by assumption)).mono ?_); rintro e w5 ⟨A8, c8, rfl, hc8, hC8, hb5⟩; (try replace HC9 := Aside0.mk (Kd.C_below HC9.out hb5)); have HC8 := Aside0.mk hC8; have HCC8 := Aside0.mk hc8; clear hC8 hc8)
                      | (go_at_call 29; (with_reducible refine (HQR.out _ (by assumption)).mono ?_); rintro e w5 ⟨A9, c9, rfl, hc9, hC9, hb5⟩; (try replace HC8 := Aside0.mk (Kd.C_below HC8.out hb5)); have HC9 := Aside0.mk hC9; have HCC9 := Aside0.mk hc9; clear hC9 hc9)
                      | (go_at_call 27; (with_reducible refine (q_same HLE.out HC8.out HCC8.out HC9.out HCC9.out HLN.out).mono ?_); rintro e w5 ⟨rfl, hb5⟩)))
                  rename_i hHeld
                  have HT8 := Aside0.mk (HT7.out.below hHeld)
                  have HR8 := Aside0.mk (HR7.out.below hHeld)
                  have HV8 := Aside0.mk (Kd.R_below HV7.out hHeld)
                  have HG8 := Aside0.mk ((hHeld.block _ (Array.getElem?_eq_some_iff.1 HG7.out).1).trans HG7.out)
                  have HB8 := Aside0.mk (HB7.out.trans (hHeld.mono (Nat.le_trans HBA.out HB7.out.size)))
                  clear hHeld q3 q4 q5 hB00 hdd hdw
                  go_wp2
                  go_roundw
                  case rel => exact ⟨q + 1, sl2, fr2, told2, _, _, own7, by omega, by go_num, HI2, HT8, HR8, HV8, HG8, HO7, HB8⟩
                  case measure => simp [intOf]; omega
                | false => as_aux_lemma =>
                  have HG0X := Aside0.mk (get_not HT0.out hh HHH.out.1 HHH.out.2 hlv)
                  rw [show liveI kd sl hh = -1 by unfold liveI; rw [if_neg (by rw [hlv]; decide)]] at HQL0
                  clear hlv g0 g1 g2
                  go_wp2_with fail
                  refine HG0X.out.mono ?_
                  rintro e w4 ⟨rfl, hb4⟩
                  have HB4 := Aside0.mk hb4
                  have hg4 := (hb4.block _ (Array.getElem?_eq_some_iff.1 HG0.out).1).trans HG0.out
                  obtain ⟨g0, g1, g2, _, _, _⟩ := ret53 hg4
                  clear hg4 hb4
                  go_wp2_with fail
                  refine (HQL0.out w4 HB4.out).mono ?_
                  rintro e w5 ⟨rfl, hb5⟩
                  have HB5 := Aside0.mk hb5
                  clear hb5 g0 g1 g2
                  go_wp2_with fail
                  refine (get_nil hh HHH.out.1 HHH.out.2 w5).mono ?_
                  rintro e W7 ⟨rfl, hb6⟩
                  have HB6 := Aside0.mk hb6
                  clear hb6
                  have hb7 : Below W0.heap.size W0 W7 := below_step (below_step HB4.out HB5.out) HB6.out
                  have HT7 := Aside0.mk (HT0.out.below hb7)
                  have HR7 := Aside0.mk (HR0.out.below hb7)
                  have HV7 := Aside0.mk (Kd.R_below HV0.out hb7)
                  have HG7 := Aside0.mk ((hb7.block _ (Array.getElem?_eq_some_iff.1 HG0.out).1).trans HG0.out)
                  have HO7 := HO0
                  have HB7 := Aside0.mk (HB0.out.trans (hb7.mono (Nat.le_trans HBA.out HB0.out.size)))
                  obtain ⟨g0, g1, g2, gf0, gf1, gf2⟩ := ret53 HG7.out
                  go_wp2
                  clear hb7 HT0 HR0 HV0 HG0 HO0 HB0 HA0 HO9 b0 b3 g0 g1 g2 gf0 gf1 gf2 HB4 HB5 HB6
                  obtain ⟨told2, rfl⟩ : ∃ o : List Int, o = told := ⟨_, rfl⟩
                  obtain ⟨sl2, rfl⟩ : ∃ o : List S76, o = sl := ⟨_, rfl⟩
                  obtain ⟨fr2, rfl⟩ : ∃ o : List Int, o = fr := ⟨_, rfl⟩
                  obtain ⟨own7, rfl⟩ : ∃ o : Nat → Nat, o = o0 := ⟨_, rfl⟩
                  obtain ⟨C1, rfl⟩ : ∃ o : Option Addr, o = B1 := ⟨_, rfl⟩
                  obtain ⟨C2, rfl⟩ : ∃ o : Option Addr, o = B2 := ⟨_, rfl⟩
                  obtain ⟨r1, rfl⟩ : ∃ o : Nat, o = p1 := ⟨_, rfl⟩
                  obtain ⟨r2, rfl⟩ : ∃ o : Nat, o = p2 := ⟨_, rfl⟩
                  obtain ⟨g0, g1, g2, _, _, _⟩ := ret53 HG7.out
                  have hsl7 : sl2.length ≤ 200 := by have := HI2.out.good.len; rw [sk_length] at this; exact this
                  have hfr7 : fr2.length ≤ 200 := HI2.out.good.flen
                  have hsi7 : (sl2.length : Int) ≤ 200 := by omega
                  have hfi7 : (fr2.length : Int) ≤ 200 := by omega
                  go_wp2
                  have q3 : ∀ W, Below W7.heap.size W7 W → W.cell? ⟨gw, 0, none⟩ = some (.int .i64 kd) := fun W h => pw_cell_below h g0
                  have q4 : ∀ W, Below W7.heap.size W7 W → W.cell? ⟨gw, 1, none⟩ = some (.slice C1 sl2.length r1) := fun W h => pw_cell_below h g1
                  have q5 : ∀ W, Below W7.heap.size W7 W → W.cell? ⟨gw, 2, none⟩ = some (.slice C2 fr2.length r2) := fun W h => pw_cell_below h g2
                  have hB00 : Below W7.heap.size W7 W7.drew := below_drew (Below.refl _ _)
                  have HLN := Aside0.mk (Nat.le_trans (hS_len HI2.out) (show 200 ≤ 1000000 by decide))
                  obtain ⟨ln, hln⟩ : ∃ n, n = (hS kd (sk sl2) 0).length := ⟨_, rfl⟩
                  have HQH := Aside0.mk (fun (W1 : World) (hb : Below W7.heap.size W7 W1) => q_handles HT7.out HI2.out HKD.out hb)
                  have HQR := Aside0.mk (fun (W1 : World) (hb : Below W7.heap.size W7 W1) => q_rhandles HR7.out HI2.out HKD.out hb)
                  rw [← hln] at HLN HQH HQR
                  have HLE := Aside0.mk hln
                  obtain ⟨dd, hdd⟩ : ∃ d, (sl2.length : Int) - (fr2.length : Int) = d := ⟨_, rfl⟩
                  have HQL := Aside0.mk (fun (W1 : World) (hb : Below W7.heap.size W7 W1) => q_len HT7.out hb)
                  rw [hdd] at HQL
                  have hdw : IntKind.i64.wrap dd = dd := IntWalk.i64_in _ (by omega)
                  clear g0 g1 g2 hln
                  go_region_held3 (fun w' => Below W7.heap.size W7 w')
                    (first | assumption | exact below_step (by assumption) hb5)
                    ((first
                      | (go_at_call 13; (with_reducible refine (HQL.out _ (by assumption)).mono ?_); rintro e w5 ⟨rfl, hb5⟩; (try replace HC8 := Aside0.mk (Kd.C_below HC8.out hb5)); (try replace HC9 := Aside0.mk (Kd.C_below HC9.out hb5)))
                      | (go_at_call 28; (with_reducible refine (HQH.out _ (by assumption)).mono ?_); rintro e w5 ⟨A8, c8, rfl, hc8, hC8, hb5⟩; (try replace HC9 := Aside0.mk (Kd.C_below HC9.out hb5)); have HC8 := Aside0.mk hC8; have HCC8 := Aside0.mk hc8; clear hC8 hc8)
                      | (go_at_call 29; (with_reducible refine (HQR.out _ (by assumption)).mono ?_); rintro e w5 ⟨A9, c9, rfl, hc9, hC9, hb5⟩; (try replace HC8 := Aside0.mk (Kd.C_below HC8.out hb5)); have HC9 := Aside0.mk hC9; have HCC9 := Aside0.mk hc9; clear hC9 hc9)
                      | (go_at_call 27; (with_reducible refine (q_same HLE.out HC8.out HCC8.out HC9.out HCC9.out HLN.out).mono ?_); rintro e w5 ⟨rfl, hb5⟩)))
                  rename_i hHeld
                  have HT8 := Aside0.mk (HT7.out.below hHeld)
                  have HR8 := Aside0.mk (HR7.out.below hHeld)
                  have HV8 := Aside0.mk (Kd.R_below HV7.out hHeld)
                  have HG8 := Aside0.mk ((hHeld.block _ (Array.getElem?_eq_some_iff.1 HG7.out).1).trans HG7.out)
                  have HB8 := Aside0.mk (HB7.out.trans (hHeld.mono (Nat.le_trans HBA.out HB7.out.size)))
                  clear hHeld q3 q4 q5 hB00 hdd hdw
                  go_wp2
                  go_roundw
                  case rel => exact ⟨q + 1, sl2, fr2, told2, _, _, own7, by omega, by go_num, HI2, HT8, HR8, HV8, HG8, HO7, HB8⟩
                  case measure => simp [intOf]; omega
            · by_cases d2 : op = 2
              · subst d2
                as_aux_lemma =>
                  have HD := Aside0.mk (r_set HBE.out HR0.out HB0.out hI.out hh av HHH.out.1 HHH.out.2 (Nat.le_trans HBA.out HB0.out.size))
                  have HI2 := Aside0.mk (hI.out.set hq1 hh av)
                  obtain ⟨lb, hlb⟩ : ∃ b, b = lvS kd (sk sl) hh := ⟨_, rfl⟩
                  obtain ⟨sl2, hsl2⟩ : ∃ o, o = sL kd sl hh av := ⟨_, rfl⟩
                  rw [← hlb, ← hsl2] at HD
                  rw [← hsl2] at HI2
                  have HLB := Aside0.mk hlb
                  have HSL := Aside0.mk hsl2
                  have HR := HR0
                  clear hlb hsl2
                  obtain ⟨fr2, rfl⟩ : ∃ o : List Int, o = fr := ⟨_, rfl⟩
                  go_wp2_with fail
                  refine HD.out.mono ?_
                  rintro e w4 ⟨v1, v2, rfl, hR4, hF4⟩
                  have HT4 := Aside0.mk (TB_pass HT0.out hF4 (by decide))
                  have HV4 := Aside0.mk (R_pass HV0.out hF4 (by decide))
                  have HG4 := Aside0.mk (blk_pass HG0.out HO0.out hF4 (by decide))
                  have HO4 := Aside0.mk (up_keep (j := 3) HO0.out (Array.getElem?_eq_some_iff.1 HG0.out).1)
                  have HA4 := Aside0.mk (blk_pass HA0.out HO9.out hF4 (by decide))
                  have HO94 := Aside0.mk (up_keep (j := 3) HO9.out (Array.getElem?_eq_some_iff.1 HA0.out).1)
                  have HB4 := Aside0.mk (HB0.out.trans hF4.b)
                  obtain ⟨C1, r1, rfl⟩ := Kd.R_slice hR4.s
                  obtain ⟨C2, r2, rfl⟩ := Kd.R_slice hR4.f
                  rw [List.length_map] at hR4 ⊢
                  have HR4 := Aside0.mk hR4
                  obtain ⟨o4, ho4⟩ : ∃ o, o = up o0 W0.heap.size 3 := ⟨_, rfl⟩
                  rw [← ho4] at HT4 HV4 HO4 HO94 HR4
                  clear hR4 hF4 ho4 HT0 HR0 HV0 HG0 HA0 HB0 HO0 HO9 HR HWW HAB b0 b3 g0 g1 g2 gf0 gf1 gf2
                  obtain ⟨_, _, _, gf0, gf1, gf2⟩ := ret53 HG4.out
                  have hgl := (Array.getElem?_eq_some_iff.1 HG4.out).1
                  obtain ⟨g0, g1, g2, _, _, _⟩ := ret53 HG4.out
                  have b34 := blk4_3 HA4.out
                  have hne1 : ¬ gw = ab := HNE.out
                  have hne2 : ¬ ab = gw := Ne.symm HNE.out
                  have habl := (Array.getElem?_eq_some_iff.1 HA4.out).1
                  go_wp2_with fail
                  clear b34 hne1 hne2 habl
                  have HPU := Aside0.mk (put53 HG4.out HO4.out HGB.out (Nat.le_trans HBA.out HB4.out.size) (.cells #[.int .i64 kd, .slice C1 sl2.length r1, .slice C2 fr2.length r2] 53) (.int .i64 kd) (.slice C1 sl2.length r1) (.slice C2 fr2.length r2))
                  obtain ⟨W5, hW5⟩ : ∃ W, W = ((((w4.setCell ⟨gw, 0, none⟩ (.int .i64 kd)).setCell ⟨gw, 1, none⟩ (.slice C1 sl2.length r1)).setCell ⟨gw, 2, none⟩ (.slice C2 fr2.length r2)).alloc (.cells #[.int .i64 kd, .slice C1 sl2.length r1, .slice C2 fr2.length r2] 53)) := ⟨_, rfl⟩
                  rw [← hW5] at HPU ⊢
                  have HT5 := Aside0.mk (TB_pass HT4.out HPU.out.1 (by decide))
                  have HR5 := Aside0.mk (HR4.out.pass HPU.out.1 (by decide))
                  have HV5 := Aside0.mk (R_pass HV4.out HPU.out.1 (by decide))
                  have HG5 := Aside0.mk HPU.out.2.1
                  have HO5 := Aside0.mk (up_keep (j := 9) HO4.out hgl)
                  have HA5 := Aside0.mk (HPU.out.2.2 _ _ (Ne.symm HNE.out) HA4.out)
                  have HO95 := Aside0.mk (up_keep (j := 9) HO94.out (Array.getElem?_eq_some_iff.1 HA4.out).1)
                  have HB5 := Aside0.mk (HB4.out.trans HPU.out.1.b)
                  obtain ⟨o5, ho5⟩ : ∃ o, o = up o4 w4.heap.size 9 := ⟨_, rfl⟩
                  rw [← ho5] at HT5 HR5 HV5 HO5 HO95
                  clear hW5 ho5 HPU HT4 HR4 HV4 HG4 HO4 HA4 HO94 HB4 g0 g1 g2 gf0 gf1 gf2 hgl
                  have HD := Aside0.mk (t_set HT5.out hh av HHH.out.1 HHH.out.2 (Nat.le_trans HBA.out HB5.out.size))
                  rw [← HLB.out, ← HSL.out] at HD
                  refine HD.out.mono ?_
                  rintro e w6 ⟨rfl, hT6, hF6⟩
                  have HT6 := Aside0.mk hT6
                  have HR6 := Aside0.mk (HR5.out.pass hF6 (by decide))
                  have HV6 := Aside0.mk (R_pass HV5.out hF6 (by decide))
                  have HG6 := Aside0.mk (blk_pass HG5.out HO5.out hF6 (by decide))
                  have HO6 := Aside0.mk (up_keep (j := 0) HO5.out (Array.getElem?_eq_some_iff.1 HG5.out).1)
                  have HA6 := Aside0.mk (blk_pass HA5.out HO95.out hF6 (by decide))
                  have HB6 := Aside0.mk (HB5.out.trans hF6.b)
                  obtain ⟨own7, ho6⟩ : ∃ o, o = up o5 W5.heap.size 0 := ⟨_, rfl⟩
                  rw [← ho6] at HT6 HR6 HV6 HO6
                  have c6 := blk4_3 HA6.out
                  clear hT6 hF6 ho6 HT5 HR5 HV5 HG5 HO5 HA5 HO95 HB5
                  go_wp2_with fail
                  refine (set_nil hh av HHH.out.1 HHH.out.2 w6).mono ?_
                  rintro e W7 ⟨rfl, hb7⟩
                  have HT7 := Aside0.mk (HT6.out.below hb7)
                  have HR7 := Aside0.mk (HR6.out.below hb7)
                  have HV7 := Aside0.mk (Kd.R_below HV6.out hb7)
                  have HG7 := Aside0.mk ((hb7.block _ (Array.getElem?_eq_some_iff.1 HG6.out).1).trans HG6.out)
                  have HO7 := HO6
                  have HB7 := Aside0.mk (HB6.out.trans (hb7.mono (Nat.le_trans HBA.out HB6.out.size)))
                  clear c6 hb7 HT6 HR6 HV6 HG6 HO6 HA6 HB6
                  obtain ⟨told2, rfl⟩ : ∃ o : List Int, o = told := ⟨_, rfl⟩
                  obtain ⟨g0, g1, g2, _, _, _⟩ := ret53 HG7.out
                  have hsl7 : sl2.length ≤ 200 := by have := HI2.out.good.len; rw [sk_length] at this; exact this
                  have hfr7 : fr2.length ≤ 200 := HI2.out.good.flen
                  have hsi7 : (sl2.length : Int) ≤ 200 := by omega
                  have hfi7 : (fr2.length : Int) ≤ 200 := by omega
                  go_wp2
                  have q3 : ∀ W, Below W7.heap.size W7 W → W.cell? ⟨gw, 0, none⟩ = some (.int .i64 kd) := fun W h => pw_cell_below h g0
                  have q4 : ∀ W, Below W7.heap.size W7 W → W.cell? ⟨gw, 1, none⟩ = some (.slice C1 sl2.length r1) := fun W h => pw_cell_below h g1
                  have q5 : ∀ W, Below W7.heap.size W7 W → W.cell? ⟨gw, 2, none⟩ = some (.slice C2 fr2.length r2) := fun W h => pw_cell_below h g2
                  have hB00 : Below W7.heap.size W7 W7.drew := below_drew (Below.refl _ _)
                  have HLN := Aside0.mk (Nat.le_trans (hS_len HI2.out) (show 200 ≤ 1000000 by decide))
                  obtain ⟨ln, hln⟩ : ∃ n, n = (hS kd (sk sl2) 0).length := ⟨_, rfl⟩
                  have HQH := Aside0.mk (fun (W1 : World) (hb : Below W7.heap.size W7 W1) => q_handles HT7.out HI2.out HKD.out hb)
                  have HQR := Aside0.mk (fun (W1 : World) (hb : Below W7.heap.size W7 W1) => q_rhandles HR7.out HI2.out HKD.out hb)
                  rw [← hln] at HLN HQH HQR
                  have HLE := Aside0.mk hln
                  obtain ⟨dd, hdd⟩ : ∃ d, (sl2.length : Int) - (fr2.length : Int) = d := ⟨_, rfl⟩
                  have HQL := Aside0.mk (fun (W1 : World) (hb : Below W7.heap.size W7 W1) => q_len HT7.out hb)
                  rw [hdd] at HQL
                  have hdw : IntKind.i64.wrap dd = dd := IntWalk.i64_in _ (by omega)
                  clear g0 g1 g2 hln
                  go_region_held3 (fun w' => Below W7.heap.size W7 w')
                    (first | assumption | exact below_step (by assumption) hb5)
                    ((first
                      | (go_at_call 13; (with_reducible refine (HQL.out _ (by assumption)).mono ?_); rintro e w5 ⟨rfl, hb5⟩; (try replace HC8 := Aside0.mk (Kd.C_below HC8.out hb5)); (try replace HC9 := Aside0.mk (Kd.C_below HC9.out hb5)))
                      | (go_at_call 28; (with_reducible refine (HQH.out _ (by assumption)).mono ?_); rintro e w5 ⟨A8, c8, rfl, hc8, hC8, hb5⟩; (try replace HC9 := Aside0.mk (Kd.C_below HC9.out hb5)); have HC8 := Aside0.mk hC8; have HCC8 := Aside0.mk hc8; clear hC8 hc8)
                      | (go_at_call 29; (with_reducible refine (HQR.out _ (by assumption)).mono ?_); rintro e w5 ⟨A9, c9, rfl, hc9, hC9, hb5⟩; (try replace HC8 := Aside0.mk (Kd.C_below HC8.out hb5)); have HC9 := Aside0.mk hC9; have HCC9 := Aside0.mk hc9; clear hC9 hc9)
                      | (go_at_call 27; (with_reducible refine (q_same HLE.out HC8.out HCC8.out HC9.out HCC9.out HLN.out).mono ?_); rintro e w5 ⟨rfl, hb5⟩)))
                  rename_i hHeld
                  have HT8 := Aside0.mk (HT7.out.below hHeld)
                  have HR8 := Aside0.mk (HR7.out.below hHeld)
                  have HV8 := Aside0.mk (Kd.R_below HV7.out hHeld)
                  have HG8 := Aside0.mk ((hHeld.block _ (Array.getElem?_eq_some_iff.1 HG7.out).1).trans HG7.out)
                  have HB8 := Aside0.mk (HB7.out.trans (hHeld.mono (Nat.le_trans HBA.out HB7.out.size)))
                  clear hHeld q3 q4 q5 hB00 hdd hdw
                  go_wp2
                  go_roundw
                  case rel => exact ⟨q + 1, sl2, fr2, told2, _, _, own7, by omega, by go_num, HI2, HT8, HR8, HV8, HG8, HO7, HB8⟩
                  case measure => simp [intOf]; omega
              ·
                as_aux_lemma =>
                  have HD := Aside0.mk (r_drop HBE.out HR0.out HB0.out hI.out hh HHH.out.1 HHH.out.2 (Nat.le_trans HBA.out HB0.out.size))
                  have HI2 := Aside0.mk (hI.out.drop hq1 hh)
                  obtain ⟨lb, hlb⟩ : ∃ b, b = lvS kd (sk sl) hh := ⟨_, rfl⟩
                  obtain ⟨sl2, hsl2⟩ : ∃ o, o = dL kd sl hh := ⟨_, rfl⟩
                  obtain ⟨fr2, hfr2⟩ : ∃ o, o = dF kd sl fr hh := ⟨_, rfl⟩
                  rw [← hlb, ← hsl2, ← hfr2] at HD
                  rw [← hsl2, ← hfr2] at HI2
                  have HLB := Aside0.mk hlb
                  have HSL := Aside0.mk hsl2
                  have HFR := Aside0.mk hfr2
                  have HR := HR0
                  clear hlb hsl2 hfr2
                  go_wp2_with fail
                  refine HD.out.mono ?_
                  rintro e w4 ⟨v1, v2, rfl, hR4, hF4⟩
                  have HT4 := Aside0.mk (TB_pass HT0.out hF4 (by decide))
                  have HV4 := Aside0.mk (R_pass HV0.out hF4 (by decide))
                  have HG4 := Aside0.mk (blk_pass HG0.out HO0.out hF4 (by decide))
                  have HO4 := Aside0.mk (up_keep (j := 3) HO0.out (Array.getElem?_eq_some_iff.1 HG0.out).1)
                  have HA4 := Aside0.mk (blk_pass HA0.out HO9.out hF4 (by decide))
                  have HO94 := Aside0.mk (up_keep (j := 3) HO9.out (Array.getElem?_eq_some_iff.1 HA0.out).1)
                  have HB4 := Aside0.mk (HB0.out.trans hF4.b)
                  obtain ⟨C1, r1, rfl⟩ := Kd.R_slice hR4.s
                  obtain ⟨C2, r2, rfl⟩ := Kd.R_slice hR4.f
                  rw [List.length_map] at hR4 ⊢
                  have HR4 := Aside0.mk hR4
                  obtain ⟨o4, ho4⟩ : ∃ o, o = up o0 W0.heap.size 3 := ⟨_, rfl⟩
                  rw [← ho4] at HT4 HV4 HO4 HO94 HR4
                  clear hR4 hF4 ho4 HT0 HR0 HV0 HG0 HA0 HB0 HO0 HO9 HR HWW HAB b0 b3 g0 g1 g2 gf0 gf1 gf2
                  obtain ⟨_, _, _, gf0, gf1, gf2⟩ := ret53 HG4.out
                  have hgl := (Array.getElem?_eq_some_iff.1 HG4.out).1
                  obtain ⟨g0, g1, g2, _, _, _⟩ := ret53 HG4.out
                  go_wp2_with fail
                  have HPU := Aside0.mk (put53 HG4.out HO4.out HGB.out (Nat.le_trans HBA.out HB4.out.size) (.cells #[.int .i64 kd, .slice C1 sl2.length r1, .slice C2 fr2.length r2] 53) (.int .i64 kd) (.slice C1 sl2.length r1) (.slice C2 fr2.length r2))
                  obtain ⟨W5, hW5⟩ : ∃ W, W = ((((w4.setCell ⟨gw, 0, none⟩ (.int .i64 kd)).setCell ⟨gw, 1, none⟩ (.slice C1 sl2.length r1)).setCell ⟨gw, 2, none⟩ (.slice C2 fr2.length r2)).alloc (.cells #[.int .i64 kd, .slice C1 sl2.length r1, .slice C2 fr2.length r2] 53)) := ⟨_, rfl⟩
                  rw [← hW5] at HPU ⊢
                  have HT5 := Aside0.mk (TB_pass HT4.out HPU.out.1 (by decide))
                  have HR5 := Aside0.mk (HR4.out.pass HPU.out.1 (by decide))
                  have HV5 := Aside0.mk (R_pass HV4.out HPU.out.1 (by decide))
                  have HG5 := Aside0.mk HPU.out.2.1
                  have HO5 := Aside0.mk (up_keep (j := 9) HO4.out hgl)
                  have HA5 := Aside0.mk (HPU.out.2.2 _ _ (Ne.symm HNE.out) HA4.out)
                  have HO95 := Aside0.mk (up_keep (j := 9) HO94.out (Array.getElem?_eq_some_iff.1 HA4.out).1)
                  have HB5 := Aside0.mk (HB4.out.trans HPU.out.1.b)
                  obtain ⟨o5, ho5⟩ : ∃ o, o = up o4 w4.heap.size 9 := ⟨_, rfl⟩
                  rw [← ho5] at HT5 HR5 HV5 HO5 HO95
                  clear hW5 ho5 HPU HT4 HR4 HV4 HG4 HO4 HA4 HO94 HB4 g0 g1 g2 gf0 gf1 gf2 hgl
                  have HD := Aside0.mk (t_drop HT5.out hI.out hh HHH.out.1 HHH.out.2 (Nat.le_trans HBA.out HB5.out.size))
                  rw [← HLB.out, ← HSL.out, ← HFR.out] at HD
                  refine HD.out.mono ?_
                  rintro e w6 ⟨rfl, hT6, hF6⟩
                  have HT6 := Aside0.mk hT6
                  have HR6 := Aside0.mk (HR5.out.pass hF6 (by decide))
                  have HV6 := Aside0.mk (R_pass HV5.out hF6 (by decide))
                  have HG6 := Aside0.mk (blk_pass HG5.out HO5.out hF6 (by decide))
                  have HO6 := Aside0.mk (up_keep (j := 0) HO5.out (Array.getElem?_eq_some_iff.1 HG5.out).1)
                  have HA6 := Aside0.mk (blk_pass HA5.out HO95.out hF6 (by decide))
                  have HB6 := Aside0.mk (HB5.out.trans hF6.b)
                  obtain ⟨own7, ho6⟩ : ∃ o, o = up o5 W5.heap.size 0 := ⟨_, rfl⟩
                  rw [← ho6] at HT6 HR6 HV6 HO6
                  clear hT6 hF6 ho6 HT5 HR5 HV5 HG5 HO5 HA5 HO95 HB5
                  go_wp2_with fail
                  refine (drop_nil hh HHH.out.1 HHH.out.2 w6).mono ?_
                  rintro e W7 ⟨rfl, hb7⟩
                  have HT7 := Aside0.mk (HT6.out.below hb7)
                  have HR7 := Aside0.mk (HR6.out.below hb7)
                  have HV7 := Aside0.mk (Kd.R_below HV6.out hb7)
                  have HG7 := Aside0.mk ((hb7.block _ (Array.getElem?_eq_some_iff.1 HG6.out).1).trans HG6.out)
                  have HO7 := HO6
                  have HB7 := Aside0.mk (HB6.out.trans (hb7.mono (Nat.le_trans HBA.out HB6.out.size)))
                  clear hb7 HT6 HR6 HV6 HG6 HO6 HA6 HB6
                  obtain ⟨told2, rfl⟩ : ∃ o : List Int, o = told := ⟨_, rfl⟩
                  obtain ⟨g0, g1, g2, _, _, _⟩ := ret53 HG7.out
                  have hsl7 : sl2.length ≤ 200 := by have := HI2.out.good.len; rw [sk_length] at this; exact this
                  have hfr7 : fr2.length ≤ 200 := HI2.out.good.flen
                  have hsi7 : (sl2.length : Int) ≤ 200 := by omega
                  have hfi7 : (fr2.length : Int) ≤ 200 := by omega
                  go_wp2
                  have q3 : ∀ W, Below W7.heap.size W7 W → W.cell? ⟨gw, 0, none⟩ = some (.int .i64 kd) := fun W h => pw_cell_below h g0
                  have q4 : ∀ W, Below W7.heap.size W7 W → W.cell? ⟨gw, 1, none⟩ = some (.slice C1 sl2.length r1) := fun W h => pw_cell_below h g1
                  have q5 : ∀ W, Below W7.heap.size W7 W → W.cell? ⟨gw, 2, none⟩ = some (.slice C2 fr2.length r2) := fun W h => pw_cell_below h g2
                  have hB00 : Below W7.heap.size W7 W7.drew := below_drew (Below.refl _ _)
                  have HLN := Aside0.mk (Nat.le_trans (hS_len HI2.out) (show 200 ≤ 1000000 by decide))
                  obtain ⟨ln, hln⟩ : ∃ n, n = (hS kd (sk sl2) 0).length := ⟨_, rfl⟩
                  have HQH := Aside0.mk (fun (W1 : World) (hb : Below W7.heap.size W7 W1) => q_handles HT7.out HI2.out HKD.out hb)
                  have HQR := Aside0.mk (fun (W1 : World) (hb : Below W7.heap.size W7 W1) => q_rhandles HR7.out HI2.out HKD.out hb)
                  rw [← hln] at HLN HQH HQR
                  have HLE := Aside0.mk hln
                  obtain ⟨dd, hdd⟩ : ∃ d, (sl2.length : Int) - (fr2.length : Int) = d := ⟨_, rfl⟩
                  have HQL := Aside0.mk (fun (W1 : World) (hb : Below W7.heap.size W7 W1) => q_len HT7.out hb)
                  rw [hdd] at HQL
                  have hdw : IntKind.i64.wrap dd = dd := IntWalk.i64_in _ (by omega)
                  clear g0 g1 g2 hln
                  go_region_held3 (fun w' => Below W7.heap.size W7 w')
                    (first | assumption | exact below_step (by assumption) hb5)
                    ((first
                      | (go_at_call 13; (with_reducible refine (HQL.out _ (by assumption)).mono ?_); rintro e w5 ⟨rfl, hb5⟩; (try replace HC8 := Aside0.mk (Kd.C_below HC8.out hb5)); (try replace HC9 := Aside0.mk (Kd.C_below HC9.out hb5)))
                      | (go_at_call 28; (with_reducible refine (HQH.out _ (by assumption)).mono ?_); rintro e w5 ⟨A8, c8, rfl, hc8, hC8, hb5⟩; (try replace HC9 := Aside0.mk (Kd.C_below HC9.out hb5)); have HC8 := Aside0.mk hC8; have HCC8 := Aside0.mk hc8; clear hC8 hc8)
                      | (go_at_call 29; (with_reducible refine (HQR.out _ (by assumption)).mono ?_); rintro e w5 ⟨A9, c9, rfl, hc9, hC9, hb5⟩; (try replace HC8 := Aside0.mk (Kd.C_below HC8.out hb5)); have HC9 := Aside0.mk hC9; have HCC9 := Aside0.mk hc9; clear hC9 hc9)
                      | (go_at_call 27; (with_reducible refine (q_same HLE.out HC8.out HCC8.out HC9.out HCC9.out HLN.out).mono ?_); rintro e w5 ⟨rfl, hb5⟩)))
                  rename_i hHeld
                  have HT8 := Aside0.mk (HT7.out.below hHeld)
                  have HR8 := Aside0.mk (HR7.out.below hHeld)
                  have HV8 := Aside0.mk (Kd.R_below HV7.out hHeld)
                  have HG8 := Aside0.mk ((hHeld.block _ (Array.getElem?_eq_some_iff.1 HG7.out).1).trans HG7.out)
                  have HB8 := Aside0.mk (HB7.out.trans (hHeld.mono (Nat.le_trans HBA.out HB7.out.size)))
                  clear hHeld q3 q4 q5 hB00 hdd hdw
                  go_wp2
                  go_roundw
                  case rel => exact ⟨q + 1, sl2, fr2, told2, _, _, own7, by omega, by go_num, HI2, HT8, HR8, HV8, HG8, HO7, HB8⟩
                  case measure => simp [intOf]; omega
      · have hqe : q = acts.length := by omega
        have hnq : ¬ (q : Int) < (acts.length : Int) := by omega
        obtain ⟨C1, r1, hv⟩ := Kd.R_slice hR.out.s
        subst hv
        obtain ⟨C2, r2, hv⟩ := Kd.R_slice hR.out.f
        subst hv
        rw [show (sl.map c58).length = sl.length by simp] at hR hG
        obtain ⟨g0, g1, g2, _, _, _⟩ := ret53 hG.out
        have hsl7 : sl.length ≤ 200 := by have := hI.out.good.len; rw [sk_length] at this; exact this
        have hfr7 : fr.length ≤ 200 := hI.out.good.flen
        have hsi7 : (sl.length : Int) ≤ 200 := by omega
        have hfi7 : (fr.length : Int) ≤ 200 := by omega
        obtain ⟨W7, rfl⟩ : ∃ o : World, o = wr := ⟨_, rfl⟩
        go_wp2
        have q4 : ∀ W, Below W7.heap.size W7 W → W.cell? ⟨gw, 1, none⟩ = some (.slice C1 sl.length r1) := fun W h => pw_cell_below h g1
        have q5 : ∀ W, Below W7.heap.size W7 W → W.cell? ⟨gw, 2, none⟩ = some (.slice C2 fr.length r2) := fun W h => pw_cell_below h g2
        have hB00 : Below W7.heap.size W7 W7.drew := below_drew (Below.refl _ _)
        obtain ⟨dd, hdd⟩ : ∃ d, (sl.length : Int) - (fr.length : Int) = d := ⟨_, rfl⟩
        have HQL := Aside0.mk (fun (W1 : World) (hb : Below W7.heap.size W7 W1) => q_len hT.out hb)
        rw [hdd] at HQL
        have hdw : IntKind.i64.wrap dd = dd := IntWalk.i64_in _ (by omega)
        clear g0 g1 g2
        go_region_held3 (fun w' => Below W7.heap.size W7 w')
          (first | assumption | exact below_step (by assumption) hb5)
          ((first
            | (go_at_call 13; (with_reducible refine (len_nil _).mono ?_); rintro e w5 ⟨rfl, hb5⟩)
            | (go_at_call 28; (with_reducible refine (handles_nil _).mono ?_); rintro e w5 ⟨rfl, hb5⟩)
            | (go_at_call 13; (with_reducible refine (HQL.out _ (by assumption)).mono ?_); rintro e w5 ⟨rfl, hb5⟩)))
        rename_i hHeld
        go_wp2
        go_ret
        refine ⟨rfl, ?_⟩
        have h10 := hB.out.trans (hHeld.mono (Nat.le_trans HBA.out hB.out.size))
        rw [HBE.out] at h10
        exact h10
end Go.Proofs.Ytgcbfbdhibbpdaa.Tb
