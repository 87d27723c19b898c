/- ResultChain's walk. -/
import Derived.Test.YtabmmdpioennfaaMChain
set_option linter.unusedVariables false
set_option linter.unusedSimpArgs false
namespace Go.Proofs.Ytabmmdpioennfaa.Re
open Go.RowKit Go.Proofs.YtabmmdpioennfaaW.PrintWords Go.Proofs.YtabmmdpioennfaaW.PrintLast Go.Proofs.YtabmmdpioennfaaW.PrintMore
attribute [local go_sem] max2_int min2_int
set_option maxHeartbeats 8000000 in
set_option maxRecDepth 100000 in
theorem chain_walk (A B C : Option Addr) (ca cb cc : Nat) (a b c : List S43) (w : World) (hA : Kd.C k43 w A a.length a) (hca : a.length ≤ ca) (wa : wfL a) (hB0 : Kd.C k43 w B b.length b) (hcb : b.length ≤ cb) (wb : wfL b) (hC0 : Kd.C k43 w C c.length c) (hcc : c.length ≤ cc) (wc : wfL c) :
    Calls Try.prog 12 #[.slice A a.length ca, .slice B b.length cb, .slice C c.length cc] w fun e w' => e = .returned (.bool true) ∧ Below w.heap.size w w' := by
  have HA := Aside0.mk hA
  have HBB := Aside0.mk hB0
  have HCC := Aside0.mk hC0
  have HCA := Aside0.mk hca
  have HCB := Aside0.mk hcb
  have HCL := Aside0.mk hcc
  have WA := Aside0.mk wa
  have WB := Aside0.mk wb
  have WC := Aside0.mk wc
  clear hA hB0 hC0 hca hcb hcc wa wb wc
  obtain ⟨fa, hfa⟩ : ∃ v, v = fewR a := ⟨_, rfl⟩
  obtain ⟨fb, hfb⟩ : ∃ v, v = fewR b := ⟨_, rfl⟩
  obtain ⟨fc, hfc⟩ : ∃ v, v = fewR c := ⟨_, rfl⟩
  have FA := Aside0.mk hfa
  have FB := Aside0.mk hfb
  have FC := Aside0.mk hfc
  clear hfa hfb hfc
  go_enter Try.func12, Try.ntmps12
  go_wp2_with fail
  refine (c_awake _).mono ?_
  rintro e w1 ⟨rfl, hb⟩
  have HB1 := Aside0.mk hb
  clear hb
  go_wp2_with fail
  refine (c_few (Kd.C_below HA.out HB1.out) HCA.out WA.out).mono ?_
  rw [← FA.out]
  rintro e w2 ⟨rfl, hb⟩
  have HB2 := Aside0.mk (below_step HB1.out hb)
  clear hb
  cases fa with
  | false =>
    go_wp2_with fail
    go_ret
    exact ⟨rfl, HB2.out⟩
  | true =>
    go_wp2_with fail
    refine (c_few (Kd.C_below HBB.out HB2.out) HCB.out WB.out).mono ?_
    rw [← FB.out]
    rintro e w3 ⟨rfl, hb⟩
    have HB3 := Aside0.mk (below_step HB2.out hb)
    clear hb
    cases fb with
    | false =>
      go_wp2_with fail
      go_ret
      exact ⟨rfl, HB3.out⟩
    | true =>
      go_wp2_with fail
      refine (c_few (Kd.C_below HCC.out HB3.out) HCL.out WC.out).mono ?_
      rw [← FC.out]
      rintro e w4 ⟨rfl, hb⟩
      have HB4 := Aside0.mk (below_step HB3.out hb)
      clear hb
      cases fc with
      | false =>
        go_wp2_with fail
        go_ret
        exact ⟨rfl, HB4.out⟩
      | true =>
        have LA := Aside0.mk (fewR_L WA.out FA.out.symm)
        have LB := Aside0.mk (fewR_L WB.out FB.out.symm)
        have LC := Aside0.mk (fewR_L WC.out FC.out.symm)
        have hla : a.length ≤ 60 := fewR_len FA.out.symm
        obtain ⟨v1, hv1⟩ : ∃ v, v = sameB a b := ⟨_, rfl⟩
        obtain ⟨v2, hv2⟩ : ∃ v, v = sameB b c := ⟨_, rfl⟩
        have V1 := Aside0.mk hv1
        have V2 := Aside0.mk hv2
        clear hv1 hv2
        go_wp2_with fail
        refine (c_same (Kd.C_below HA.out HB4.out) HCA.out (Kd.C_below HBB.out HB4.out) HCB.out LA.out LB.out v1 (by rw [V1.out]; exact sameB_iff)).mono ?_
        rintro e w5 ⟨rfl, hb⟩
        have HB5 := Aside0.mk (below_step HB4.out hb)
        clear hb
        cases v1 with
        | false =>
          go_wp2
          have HB0 := HB5
          go_loopw [9, 10, 11, 12] (fun tv kv fv iv wr => ∃ (k : Nat) (kn fr : Int), k ≤ a.length ∧ iv = .int .i64 k ∧ kv = .int .i64 kn ∧ fv = .int .u64 fr ∧ (0 ≤ kn ∧ kn ≤ k) ∧ Aside0 ((kn, fr) = kindsOf (a.take k)) ∧ Aside0 ((Kd.fixed k43 w).R 43 wr w.heap.size (fun _ => True) tv ((a.take k).map seven)) ∧ Aside0 (Below w.heap.size w wr)) (fun tv kv fv iv _ => a.length - (intOf iv).toNat)
          case atStart => exact ⟨0, 0, 0, Nat.zero_le _, rfl, rfl, rfl, ⟨by omega, by omega⟩, ⟨rfl⟩, ⟨Kd.R_nil _ _ _ _ _⟩, HB0⟩
          case round =>
            obtain ⟨k, kn, fr, hk, rfl, rfl, rfl, hkn, hK, hR, hB⟩ := hrel
            clear HB0
            obtain ⟨tl, htl⟩ : ∃ tl, tl = (a.take k).map seven := ⟨_, rfl⟩
            rw [← htl] at hR
            have HTL := Aside0.mk htl
            clear htl
            by_cases hlt : k < a.length
            · obtain ⟨ad, A0, c0, hAd, e0, e1, e2, e3, hc0, hC0⟩ := at_T43 HA.out (k : Int) (by omega) (by omega)
              subst hAd
              obtain ⟨x, hx⟩ : ∃ x, x = rd_T43 a (k : Int) := ⟨_, rfl⟩
              rw [← hx] at e0 e1 e2 e3 hc0 hC0
              simp only [Int.toNat_natCast] at e0 e1 e2 e3
              replace e0 := pw_cell_below hB.out e0
              replace e1 := pw_cell_below hB.out e1
              replace e2 := pw_cell_below hB.out e2
              replace e3 := pw_cell_below hB.out e3
              have hsn : kindsOf (a.take (k + 1)) = stepC (kn, fr) x := by rw [List.take_succ_eq_append_getElem hlt, kindsOf_snoc, ← hK.out, hx, rd43_get hlt]
              have hmp : ∀ g : Int, (⟨x.f0, g, x.f2, x.f3⟩ : S43) = seven x → tl ++ [(⟨x.f0, g, x.f2, x.f3⟩ : S43)] = (a.take (k + 1)).map seven := fun g h => by
                rw [List.take_succ_eq_append_getElem hlt, List.map_append, h, hx, rd43_get hlt, HTL.out]; rfl
              have HSN := Aside0.mk hsn
              have HMP := Aside0.mk hmp
              have HC0 := Aside0.mk hC0
              have HCC0 := Aside0.mk hc0
              have hlen : tl.length ≤ 60 := by rw [HTL.out, List.length_map, List.length_take]; omega
              obtain ⟨T9, c9, rfl⟩ := Kd.R_slice hR.out
              have HLEN := Aside0.mk hlen
              have hin : 0 ≤ (k : Int) ∧ (k : Int) < (a.length : Int) := by omega
              have hin2 : (k : Int) < (a.length : Int) := by omega
              clear hx hsn hmp hC0 hc0 hlen
              by_cases c1 : x.f1 = 0
              · have t1 : (x.f1 != 0) = false := by simp [c1]
                have h1 : (⟨x.f0, x.f1, x.f2, x.f3⟩ : S43) = seven x := by unfold seven; rw [if_pos c1, c1]
                have H1 := Aside0.mk (HMP.out _ h1)
                have H2 := Aside0.mk (show (kn, fr) = kindsOf (a.take (k + 1)) by rw [HSN.out]; unfold stepC; rw [if_pos (.inl c1)])
                clear c1 h1
                go_wp2_with (at_builtin; refine Kd.R_append (Kd.fixed k43 w) (w0 := w) w.heap.size rfl _ _ 35 43 _ 48 rfl Try.underlying35 info43 rfl (show 0 < 4 by decide) (by decide) (.slice T9 tl.length c9) tl (⟨x.f0, x.f1, x.f2, x.f3⟩ : S43) [.int .i64 x.f0, .int .u64 x.f1, .slice A0 x.f2.length c0, .int .i64 x.f3] (fun _ => True) (fun _ => False) rfl (by first | rfl | (go_simp; done) | (simp; done)) (k43_mk w (⟨x.f0, x.f1, x.f2, x.f3⟩ : S43) HCC0.out HC0.out) (fun _ h => h.elim) (fun _ _ => trivial) (Kd.R_alloc hR.out _) (below_alloc hB.out _) (by have := hB.out.size; simp; omega) (by have := HLEN.out; omega) ?_; intro v1 w1 hR1 hB1 hg1 hat1; have HR1 := Aside0.mk hR1; have HB1 := Aside0.mk hB1; clear hR1 hB1 hg1 hat1)
                go_roundw
                case rel => exact ⟨k + 1, kn, fr, by omega, by go_num, rfl, rfl, ⟨by omega, by omega⟩, H2, ⟨by rw [← H1.out]; exact HR1.out⟩, HB1⟩
                case measure => simp [intOf]; omega
              · have t1 : (x.f1 != 0) = true := by simp [c1]
                have h1 : (⟨x.f0, 7, x.f2, x.f3⟩ : S43) = seven x := by unfold seven; rw [if_neg c1]
                have H1 := Aside0.mk (HMP.out _ h1)
                clear h1
                by_cases c2 : x.f1 = fr
                · have t2 : (x.f1 != fr) = false := by simp [c2]
                  have H2 := Aside0.mk (show (kn, fr) = kindsOf (a.take (k + 1)) by rw [HSN.out]; unfold stepC; rw [if_pos (.inr c2)])
                  clear c1 c2
                  go_wp2_with (at_builtin; refine Kd.R_append (Kd.fixed k43 w) (w0 := w) w.heap.size rfl _ _ 35 43 _ 48 rfl Try.underlying35 info43 rfl (show 0 < 4 by decide) (by decide) (.slice T9 tl.length c9) tl (⟨x.f0, 7, x.f2, x.f3⟩ : S43) [.int .i64 x.f0, .int .u64 7, .slice A0 x.f2.length c0, .int .i64 x.f3] (fun _ => True) (fun _ => False) rfl (by first | rfl | (go_simp; done) | (simp; done)) (k43_mk w (⟨x.f0, 7, x.f2, x.f3⟩ : S43) HCC0.out HC0.out) (fun _ h => h.elim) (fun _ _ => trivial) (Kd.R_alloc hR.out _) (below_alloc hB.out _) (by have := hB.out.size; simp; omega) (by have := HLEN.out; omega) ?_; intro v1 w1 hR1 hB1 hg1 hat1; have HR1 := Aside0.mk hR1; have HB1 := Aside0.mk hB1; clear hR1 hB1 hg1 hat1)
                  go_roundw
                  case rel => exact ⟨k + 1, kn, fr, by omega, by go_num, rfl, rfl, ⟨by omega, by omega⟩, H2, ⟨by rw [← H1.out]; exact HR1.out⟩, HB1⟩
                  case measure => simp [intOf]; omega
                · have t2 : (x.f1 != fr) = true := by simp [c2]
                  by_cases c3 : fr = 0
                  · have t3 : (fr == 0) = true := by simp [c3]
                    have H2 := Aside0.mk (show (1, x.f1) = kindsOf (a.take (k + 1)) by rw [HSN.out]; unfold stepC; rw [if_neg (by rintro (h | h); exact c1 h; exact c2 h), if_pos c3])
                    clear c1 c2 c3
                    go_wp2_with (at_builtin; refine Kd.R_append (Kd.fixed k43 w) (w0 := w) w.heap.size rfl _ _ 35 43 _ 48 rfl Try.underlying35 info43 rfl (show 0 < 4 by decide) (by decide) (.slice T9 tl.length c9) tl (⟨x.f0, 7, x.f2, x.f3⟩ : S43) [.int .i64 x.f0, .int .u64 7, .slice A0 x.f2.length c0, .int .i64 x.f3] (fun _ => True) (fun _ => False) rfl (by first | rfl | (go_simp; done) | (simp; done)) (k43_mk w (⟨x.f0, 7, x.f2, x.f3⟩ : S43) HCC0.out HC0.out) (fun _ h => h.elim) (fun _ _ => trivial) (Kd.R_alloc hR.out _) (below_alloc hB.out _) (by have := hB.out.size; simp; omega) (by have := HLEN.out; omega) ?_; intro v1 w1 hR1 hB1 hg1 hat1; have HR1 := Aside0.mk hR1; have HB1 := Aside0.mk hB1; clear hR1 hB1 hg1 hat1)
                    go_roundw
                    case rel => exact ⟨k + 1, 1, x.f1, by omega, by go_num, rfl, rfl, ⟨by omega, by omega⟩, H2, ⟨by rw [← H1.out]; exact HR1.out⟩, HB1⟩
                    case measure => simp [intOf]; omega
                  · have t3 : (fr == 0) = false := by simp [c3]
                    have H2 := Aside0.mk (show (kn + 1, fr) = kindsOf (a.take (k + 1)) by rw [HSN.out]; unfold stepC; rw [if_neg (by rintro (h | h); exact c1 h; exact c2 h), if_neg c3])
                    clear c1 c2 c3
                    go_wp2_with (at_builtin; refine Kd.R_append (Kd.fixed k43 w) (w0 := w) w.heap.size rfl _ _ 35 43 _ 48 rfl Try.underlying35 info43 rfl (show 0 < 4 by decide) (by decide) (.slice T9 tl.length c9) tl (⟨x.f0, 7, x.f2, x.f3⟩ : S43) [.int .i64 x.f0, .int .u64 7, .slice A0 x.f2.length c0, .int .i64 x.f3] (fun _ => True) (fun _ => False) rfl (by first | rfl | (go_simp; done) | (simp; done)) (k43_mk w (⟨x.f0, 7, x.f2, x.f3⟩ : S43) HCC0.out HC0.out) (fun _ h => h.elim) (fun _ _ => trivial) (Kd.R_alloc hR.out _) (below_alloc hB.out _) (by have := hB.out.size; simp; omega) (by have := HLEN.out; omega) ?_; intro v1 w1 hR1 hB1 hg1 hat1; have HR1 := Aside0.mk hR1; have HB1 := Aside0.mk hB1; clear hR1 hB1 hg1 hat1)
                    go_roundw
                    case rel => exact ⟨k + 1, kn + 1, fr, by omega, by go_num, rfl, rfl, ⟨by omega, by omega⟩, H2, ⟨by rw [← H1.out]; exact HR1.out⟩, HB1⟩
                    case measure => simp [intOf]; omega
            · have hge : ¬ (k : Int) < (a.length : Int) := by omega
              have hke : a.take k = a := List.take_of_length_le (by omega)
              rw [hke] at hK
              have ht7 : tl = a.map seven := by rw [HTL.out, hke]
              have HT7 := Aside0.mk ht7
              obtain ⟨T, tc, rfl, htc, hT⟩ := fixed_reads hR.out hB.out
              have HT := Aside0.mk hT
              have HTC := Aside0.mk htc
              have hv3 : decide (kn < 2) = true ↔ SameP a tl := by
                rw [ht7, seven_same, ← hK.out, decide_eq_true_eq]
              have HV3 := Aside0.mk hv3
              obtain ⟨v3, hv⟩ : ∃ v, v = decide (kn < 2) := ⟨_, rfl⟩
              rw [← hv] at HV3
              have HV := Aside0.mk hv
              clear hke hT htc hv3 hv ht7
              go_wp2_with fail
              refine (c_same (Kd.C_below HA.out hB.out) HCA.out HT.out HTC.out LA.out (by rw [HT7.out]; exact few_seven LA.out) v3 HV3.out).mono ?_
              rintro e w9 ⟨rfl, hb⟩
              have HB9 := Aside0.mk (below_step hB.out hb)
              clear hb
              go_wp2_with fail
              go_ret
              exact ⟨by rw [HV.out]; simp, HB9.out⟩
        | true =>
          go_wp2_with fail
          refine (c_same (Kd.C_below HBB.out HB5.out) HCB.out (Kd.C_below HCC.out HB5.out) HCL.out LB.out LC.out v2 (by rw [V2.out]; exact sameB_iff)).mono ?_
          rintro e w6 ⟨rfl, hb⟩
          have HB6 := Aside0.mk (below_step HB5.out hb)
          clear hb
          cases v2 with
          | false =>
            go_wp2
            have HB0 := HB6
            go_loopw [9, 10, 11, 12] (fun tv kv fv iv wr => ∃ (k : Nat) (kn fr : Int), k ≤ a.length ∧ iv = .int .i64 k ∧ kv = .int .i64 kn ∧ fv = .int .u64 fr ∧ (0 ≤ kn ∧ kn ≤ k) ∧ Aside0 ((kn, fr) = kindsOf (a.take k)) ∧ Aside0 ((Kd.fixed k43 w).R 43 wr w.heap.size (fun _ => True) tv ((a.take k).map seven)) ∧ Aside0 (Below w.heap.size w wr)) (fun tv kv fv iv _ => a.length - (intOf iv).toNat)
            case atStart => exact ⟨0, 0, 0, Nat.zero_le _, rfl, rfl, rfl, ⟨by omega, by omega⟩, ⟨rfl⟩, ⟨Kd.R_nil _ _ _ _ _⟩, HB0⟩
            case round =>
              obtain ⟨k, kn, fr, hk, rfl, rfl, rfl, hkn, hK, hR, hB⟩ := hrel
              clear HB0
              obtain ⟨tl, htl⟩ : ∃ tl, tl = (a.take k).map seven := ⟨_, rfl⟩
              rw [← htl] at hR
              have HTL := Aside0.mk htl
              clear htl
              by_cases hlt : k < a.length
              · obtain ⟨ad, A0, c0, hAd, e0, e1, e2, e3, hc0, hC0⟩ := at_T43 HA.out (k : Int) (by omega) (by omega)
                subst hAd
                obtain ⟨x, hx⟩ : ∃ x, x = rd_T43 a (k : Int) := ⟨_, rfl⟩
                rw [← hx] at e0 e1 e2 e3 hc0 hC0
                simp only [Int.toNat_natCast] at e0 e1 e2 e3
                replace e0 := pw_cell_below hB.out e0
                replace e1 := pw_cell_below hB.out e1
                replace e2 := pw_cell_below hB.out e2
                replace e3 := pw_cell_below hB.out e3
                have hsn : kindsOf (a.take (k + 1)) = stepC (kn, fr) x := by rw [List.take_succ_eq_append_getElem hlt, kindsOf_snoc, ← hK.out, hx, rd43_get hlt]
                have hmp : ∀ g : Int, (⟨x.f0, g, x.f2, x.f3⟩ : S43) = seven x → tl ++ [(⟨x.f0, g, x.f2, x.f3⟩ : S43)] = (a.take (k + 1)).map seven := fun g h => by
                  rw [List.take_succ_eq_append_getElem hlt, List.map_append, h, hx, rd43_get hlt, HTL.out]; rfl
                have HSN := Aside0.mk hsn
                have HMP := Aside0.mk hmp
                have HC0 := Aside0.mk hC0
                have HCC0 := Aside0.mk hc0
                have hlen : tl.length ≤ 60 := by rw [HTL.out, List.length_map, List.length_take]; omega
                obtain ⟨T9, c9, rfl⟩ := Kd.R_slice hR.out
                have HLEN := Aside0.mk hlen
                have hin : 0 ≤ (k : Int) ∧ (k : Int) < (a.length : Int) := by omega
                have hin2 : (k : Int) < (a.length : Int) := by omega
                clear hx hsn hmp hC0 hc0 hlen
                by_cases c1 : x.f1 = 0
                · have t1 : (x.f1 != 0) = false := by simp [c1]
                  have h1 : (⟨x.f0, x.f1, x.f2, x.f3⟩ : S43) = seven x := by unfold seven; rw [if_pos c1, c1]
                  have H1 := Aside0.mk (HMP.out _ h1)
                  have H2 := Aside0.mk (show (kn, fr) = kindsOf (a.take (k + 1)) by rw [HSN.out]; unfold stepC; rw [if_pos (.inl c1)])
                  clear c1 h1
                  go_wp2_with (at_builtin; refine Kd.R_append (Kd.fixed k43 w) (w0 := w) w.heap.size rfl _ _ 35 43 _ 48 rfl Try.underlying35 info43 rfl (show 0 < 4 by decide) (by decide) (.slice T9 tl.length c9) tl (⟨x.f0, x.f1, x.f2, x.f3⟩ : S43) [.int .i64 x.f0, .int .u64 x.f1, .slice A0 x.f2.length c0, .int .i64 x.f3] (fun _ => True) (fun _ => False) rfl (by first | rfl | (go_simp; done) | (simp; done)) (k43_mk w (⟨x.f0, x.f1, x.f2, x.f3⟩ : S43) HCC0.out HC0.out) (fun _ h => h.elim) (fun _ _ => trivial) (Kd.R_alloc hR.out _) (below_alloc hB.out _) (by have := hB.out.size; simp; omega) (by have := HLEN.out; omega) ?_; intro v1 w1 hR1 hB1 hg1 hat1; have HR1 := Aside0.mk hR1; have HB1 := Aside0.mk hB1; clear hR1 hB1 hg1 hat1)
                  go_roundw
                  case rel => exact ⟨k + 1, kn, fr, by omega, by go_num, rfl, rfl, ⟨by omega, by omega⟩, H2, ⟨by rw [← H1.out]; exact HR1.out⟩, HB1⟩
                  case measure => simp [intOf]; omega
                · have t1 : (x.f1 != 0) = true := by simp [c1]
                  have h1 : (⟨x.f0, 7, x.f2, x.f3⟩ : S43) = seven x := by unfold seven; rw [if_neg c1]
                  have H1 := Aside0.mk (HMP.out _ h1)
                  clear h1
                  by_cases c2 : x.f1 = fr
                  · have t2 : (x.f1 != fr) = false := by simp [c2]
                    have H2 := Aside0.mk (show (kn, fr) = kindsOf (a.take (k + 1)) by rw [HSN.out]; unfold stepC; rw [if_pos (.inr c2)])
                    clear c1 c2
                    go_wp2_with (at_builtin; refine Kd.R_append (Kd.fixed k43 w) (w0 := w) w.heap.size rfl _ _ 35 43 _ 48 rfl Try.underlying35 info43 rfl (show 0 < 4 by decide) (by decide) (.slice T9 tl.length c9) tl (⟨x.f0, 7, x.f2, x.f3⟩ : S43) [.int .i64 x.f0, .int .u64 7, .slice A0 x.f2.length c0, .int .i64 x.f3] (fun _ => True) (fun _ => False) rfl (by first | rfl | (go_simp; done) | (simp; done)) (k43_mk w (⟨x.f0, 7, x.f2, x.f3⟩ : S43) HCC0.out HC0.out) (fun _ h => h.elim) (fun _ _ => trivial) (Kd.R_alloc hR.out _) (below_alloc hB.out _) (by have := hB.out.size; simp; omega) (by have := HLEN.out; omega) ?_; intro v1 w1 hR1 hB1 hg1 hat1; have HR1 := Aside0.mk hR1; have HB1 := Aside0.mk hB1; clear hR1 hB1 hg1 hat1)
                    go_roundw
                    case rel => exact ⟨k + 1, kn, fr, by omega, by go_num, rfl, rfl, ⟨by omega, by omega⟩, H2, ⟨by rw [← H1.out]; exact HR1.out⟩, HB1⟩
                    case measure => simp [intOf]; omega
                  · have t2 : (x.f1 != fr) = true := by simp [c2]
                    by_cases c3 : fr = 0
                    · have t3 : (fr == 0) = true := by simp [c3]
                      have H2 := Aside0.mk (show (1, x.f1) = kindsOf (a.take (k + 1)) by rw [HSN.out]; unfold stepC; rw [if_neg (by rintro (h | h); exact c1 h; exact c2 h), if_pos c3])
                      clear c1 c2 c3
                      go_wp2_with (at_builtin; refine Kd.R_append (Kd.fixed k43 w) (w0 := w) w.heap.size rfl _ _ 35 43 _ 48 rfl Try.underlying35 info43 rfl (show 0 < 4 by decide) (by decide) (.slice T9 tl.length c9) tl (⟨x.f0, 7, x.f2, x.f3⟩ : S43) [.int .i64 x.f0, .int .u64 7, .slice A0 x.f2.length c0, .int .i64 x.f3] (fun _ => True) (fun _ => False) rfl (by first | rfl | (go_simp; done) | (simp; done)) (k43_mk w (⟨x.f0, 7, x.f2, x.f3⟩ : S43) HCC0.out HC0.out) (fun _ h => h.elim) (fun _ _ => trivial) (Kd.R_alloc hR.out _) (below_alloc hB.out _) (by have := hB.out.size; simp; omega) (by have := HLEN.out; omega) ?_; intro v1 w1 hR1 hB1 hg1 hat1; have HR1 := Aside0.mk hR1; have HB1 := Aside0.mk hB1; clear hR1 hB1 hg1 hat1)
                      go_roundw
                      case rel => exact ⟨k + 1, 1, x.f1, by omega, by go_num, rfl, rfl, ⟨by omega, by omega⟩, H2, ⟨by rw [← H1.out]; exact HR1.out⟩, HB1⟩
                      case measure => simp [intOf]; omega
                    · have t3 : (fr == 0) = false := by simp [c3]
                      have H2 := Aside0.mk (show (kn + 1, fr) = kindsOf (a.take (k + 1)) by rw [HSN.out]; unfold stepC; rw [if_neg (by rintro (h | h); exact c1 h; exact c2 h), if_neg c3])
                      clear c1 c2 c3
                      go_wp2_with (at_builtin; refine Kd.R_append (Kd.fixed k43 w) (w0 := w) w.heap.size rfl _ _ 35 43 _ 48 rfl Try.underlying35 info43 rfl (show 0 < 4 by decide) (by decide) (.slice T9 tl.length c9) tl (⟨x.f0, 7, x.f2, x.f3⟩ : S43) [.int .i64 x.f0, .int .u64 7, .slice A0 x.f2.length c0, .int .i64 x.f3] (fun _ => True) (fun _ => False) rfl (by first | rfl | (go_simp; done) | (simp; done)) (k43_mk w (⟨x.f0, 7, x.f2, x.f3⟩ : S43) HCC0.out HC0.out) (fun _ h => h.elim) (fun _ _ => trivial) (Kd.R_alloc hR.out _) (below_alloc hB.out _) (by have := hB.out.size; simp; omega) (by have := HLEN.out; omega) ?_; intro v1 w1 hR1 hB1 hg1 hat1; have HR1 := Aside0.mk hR1; have HB1 := Aside0.mk hB1; clear hR1 hB1 hg1 hat1)
                      go_roundw
                      case rel => exact ⟨k + 1, kn + 1, fr, by omega, by go_num, rfl, rfl, ⟨by omega, by omega⟩, H2, ⟨by rw [← H1.out]; exact HR1.out⟩, HB1⟩
                      case measure => simp [intOf]; omega
              · have hge : ¬ (k : Int) < (a.length : Int) := by omega
                have hke : a.take k = a := List.take_of_length_le (by omega)
                rw [hke] at hK
                have ht7 : tl = a.map seven := by rw [HTL.out, hke]
                have HT7 := Aside0.mk ht7
                obtain ⟨T, tc, rfl, htc, hT⟩ := fixed_reads hR.out hB.out
                have HT := Aside0.mk hT
                have HTC := Aside0.mk htc
                have hv3 : decide (kn < 2) = true ↔ SameP a tl := by
                  rw [ht7, seven_same, ← hK.out, decide_eq_true_eq]
                have HV3 := Aside0.mk hv3
                obtain ⟨v3, hv⟩ : ∃ v, v = decide (kn < 2) := ⟨_, rfl⟩
                rw [← hv] at HV3
                have HV := Aside0.mk hv
                clear hke hT htc hv3 hv ht7
                go_wp2_with fail
                refine (c_same (Kd.C_below HA.out hB.out) HCA.out HT.out HTC.out LA.out (by rw [HT7.out]; exact few_seven LA.out) v3 HV3.out).mono ?_
                rintro e w9 ⟨rfl, hb⟩
                have HB9 := Aside0.mk (below_step hB.out hb)
                clear hb
                go_wp2_with fail
                go_ret
                exact ⟨by rw [HV.out]; simp, HB9.out⟩
          | true =>
            have hs3 : SameP a c := (sameB_iff.1 V1.out.symm).trans (sameB_iff.1 V2.out.symm)
            have HS3 := Aside0.mk hs3
            clear hs3
            go_wp2_with fail
            refine (c_same (Kd.C_below HA.out HB6.out) HCA.out (Kd.C_below HCC.out HB6.out) HCL.out LA.out LC.out true (by exact ⟨fun _ => HS3.out, fun _ => rfl⟩)).mono ?_
            rintro e w7 ⟨rfl, hb⟩
            have HB7 := Aside0.mk (below_step HB6.out hb)
            clear hb
            go_wp2
            have HB0 := HB7
            go_loopw [9, 10, 11, 12] (fun tv kv fv iv wr => ∃ (k : Nat) (kn fr : Int), k ≤ a.length ∧ iv = .int .i64 k ∧ kv = .int .i64 kn ∧ fv = .int .u64 fr ∧ (0 ≤ kn ∧ kn ≤ k) ∧ Aside0 ((kn, fr) = kindsOf (a.take k)) ∧ Aside0 ((Kd.fixed k43 w).R 43 wr w.heap.size (fun _ => True) tv ((a.take k).map seven)) ∧ Aside0 (Below w.heap.size w wr)) (fun tv kv fv iv _ => a.length - (intOf iv).toNat)
            case atStart => exact ⟨0, 0, 0, Nat.zero_le _, rfl, rfl, rfl, ⟨by omega, by omega⟩, ⟨rfl⟩, ⟨Kd.R_nil _ _ _ _ _⟩, HB0⟩
            case round =>
              obtain ⟨k, kn, fr, hk, rfl, rfl, rfl, hkn, hK, hR, hB⟩ := hrel
              clear HB0
              obtain ⟨tl, htl⟩ : ∃ tl, tl = (a.take k).map seven := ⟨_, rfl⟩
              rw [← htl] at hR
              have HTL := Aside0.mk htl
              clear htl
              by_cases hlt : k < a.length
              · obtain ⟨ad, A0, c0, hAd, e0, e1, e2, e3, hc0, hC0⟩ := at_T43 HA.out (k : Int) (by omega) (by omega)
                subst hAd
                obtain ⟨x, hx⟩ : ∃ x, x = rd_T43 a (k : Int) := ⟨_, rfl⟩
                rw [← hx] at e0 e1 e2 e3 hc0 hC0
                simp only [Int.toNat_natCast] at e0 e1 e2 e3
                replace e0 := pw_cell_below hB.out e0
                replace e1 := pw_cell_below hB.out e1
                replace e2 := pw_cell_below hB.out e2
                replace e3 := pw_cell_below hB.out e3
                have hsn : kindsOf (a.take (k + 1)) = stepC (kn, fr) x := by rw [List.take_succ_eq_append_getElem hlt, kindsOf_snoc, ← hK.out, hx, rd43_get hlt]
                have hmp : ∀ g : Int, (⟨x.f0, g, x.f2, x.f3⟩ : S43) = seven x → tl ++ [(⟨x.f0, g, x.f2, x.f3⟩ : S43)] = (a.take (k + 1)).map seven := fun g h => by
                  rw [List.take_succ_eq_append_getElem hlt, List.map_append, h, hx, rd43_get hlt, HTL.out]; rfl
                have HSN := Aside0.mk hsn
                have HMP := Aside0.mk hmp
                have HC0 := Aside0.mk hC0
                have HCC0 := Aside0.mk hc0
                have hlen : tl.length ≤ 60 := by rw [HTL.out, List.length_map, List.length_take]; omega
                obtain ⟨T9, c9, rfl⟩ := Kd.R_slice hR.out
                have HLEN := Aside0.mk hlen
                have hin : 0 ≤ (k : Int) ∧ (k : Int) < (a.length : Int) := by omega
                have hin2 : (k : Int) < (a.length : Int) := by omega
                clear hx hsn hmp hC0 hc0 hlen
                by_cases c1 : x.f1 = 0
                · have t1 : (x.f1 != 0) = false := by simp [c1]
                  have h1 : (⟨x.f0, x.f1, x.f2, x.f3⟩ : S43) = seven x := by unfold seven; rw [if_pos c1, c1]
                  have H1 := Aside0.mk (HMP.out _ h1)
                  have H2 := Aside0.mk (show (kn, fr) = kindsOf (a.take (k + 1)) by rw [HSN.out]; unfold stepC; rw [if_pos (.inl c1)])
                  clear c1 h1
                  go_wp2_with (at_builtin; refine Kd.R_append (Kd.fixed k43 w) (w0 := w) w.heap.size rfl _ _ 35 43 _ 48 rfl Try.underlying35 info43 rfl (show 0 < 4 by decide) (by decide) (.slice T9 tl.length c9) tl (⟨x.f0, x.f1, x.f2, x.f3⟩ : S43) [.int .i64 x.f0, .int .u64 x.f1, .slice A0 x.f2.length c0, .int .i64 x.f3] (fun _ => True) (fun _ => False) rfl (by first | rfl | (go_simp; done) | (simp; done)) (k43_mk w (⟨x.f0, x.f1, x.f2, x.f3⟩ : S43) HCC0.out HC0.out) (fun _ h => h.elim) (fun _ _ => trivial) (Kd.R_alloc hR.out _) (below_alloc hB.out _) (by have := hB.out.size; simp; omega) (by have := HLEN.out; omega) ?_; intro v1 w1 hR1 hB1 hg1 hat1; have HR1 := Aside0.mk hR1; have HB1 := Aside0.mk hB1; clear hR1 hB1 hg1 hat1)
                  go_roundw
                  case rel => exact ⟨k + 1, kn, fr, by omega, by go_num, rfl, rfl, ⟨by omega, by omega⟩, H2, ⟨by rw [← H1.out]; exact HR1.out⟩, HB1⟩
                  case measure => simp [intOf]; omega
                · have t1 : (x.f1 != 0) = true := by simp [c1]
                  have h1 : (⟨x.f0, 7, x.f2, x.f3⟩ : S43) = seven x := by unfold seven; rw [if_neg c1]
                  have H1 := Aside0.mk (HMP.out _ h1)
                  clear h1
                  by_cases c2 : x.f1 = fr
                  · have t2 : (x.f1 != fr) = false := by simp [c2]
                    have H2 := Aside0.mk (show (kn, fr) = kindsOf (a.take (k + 1)) by rw [HSN.out]; unfold stepC; rw [if_pos (.inr c2)])
                    clear c1 c2
                    go_wp2_with (at_builtin; refine Kd.R_append (Kd.fixed k43 w) (w0 := w) w.heap.size rfl _ _ 35 43 _ 48 rfl Try.underlying35 info43 rfl (show 0 < 4 by decide) (by decide) (.slice T9 tl.length c9) tl (⟨x.f0, 7, x.f2, x.f3⟩ : S43) [.int .i64 x.f0, .int .u64 7, .slice A0 x.f2.length c0, .int .i64 x.f3] (fun _ => True) (fun _ => False) rfl (by first | rfl | (go_simp; done) | (simp; done)) (k43_mk w (⟨x.f0, 7, x.f2, x.f3⟩ : S43) HCC0.out HC0.out) (fun _ h => h.elim) (fun _ _ => trivial) (Kd.R_alloc hR.out _) (below_alloc hB.out _) (by have := hB.out.size; simp; omega) (by have := HLEN.out; omega) ?_; intro v1 w1 hR1 hB1 hg1 hat1; have HR1 := Aside0.mk hR1; have HB1 := Aside0.mk hB1; clear hR1 hB1 hg1 hat1)
                    go_roundw
                    case rel => exact ⟨k + 1, kn, fr, by omega, by go_num, rfl, rfl, ⟨by omega, by omega⟩, H2, ⟨by rw [← H1.out]; exact HR1.out⟩, HB1⟩
                    case measure => simp [intOf]; omega
                  · have t2 : (x.f1 != fr) = true := by simp [c2]
                    by_cases c3 : fr = 0
                    · have t3 : (fr == 0) = true := by simp [c3]
                      have H2 := Aside0.mk (show (1, x.f1) = kindsOf (a.take (k + 1)) by rw [HSN.out]; unfold stepC; rw [if_neg (by rintro (h | h); exact c1 h; exact c2 h), if_pos c3])
                      clear c1 c2 c3
                      go_wp2_with (at_builtin; refine Kd.R_append (Kd.fixed k43 w) (w0 := w) w.heap.size rfl _ _ 35 43 _ 48 rfl Try.underlying35 info43 rfl (show 0 < 4 by decide) (by decide) (.slice T9 tl.length c9) tl (⟨x.f0, 7, x.f2, x.f3⟩ : S43) [.int .i64 x.f0, .int .u64 7, .slice A0 x.f2.length c0, .int .i64 x.f3] (fun _ => True) (fun _ => False) rfl (by first | rfl | (go_simp; done) | (simp; done)) (k43_mk w (⟨x.f0, 7, x.f2, x.f3⟩ : S43) HCC0.out HC0.out) (fun _ h => h.elim) (fun _ _ => trivial) (Kd.R_alloc hR.out _) (below_alloc hB.out _) (by have := hB.out.size; simp; omega) (by have := HLEN.out; omega) ?_; intro v1 w1 hR1 hB1 hg1 hat1; have HR1 := Aside0.mk hR1; have HB1 := Aside0.mk hB1; clear hR1 hB1 hg1 hat1)
                      go_roundw
                      case rel => exact ⟨k + 1, 1, x.f1, by omega, by go_num, rfl, rfl, ⟨by omega, by omega⟩, H2, ⟨by rw [← H1.out]; exact HR1.out⟩, HB1⟩
                      case measure => simp [intOf]; omega
                    · have t3 : (fr == 0) = false := by simp [c3]
                      have H2 := Aside0.mk (show (kn + 1, fr) = kindsOf (a.take (k + 1)) by rw [HSN.out]; unfold stepC; rw [if_neg (by rintro (h | h); exact c1 h; exact c2 h), if_neg c3])
                      clear c1 c2 c3
                      go_wp2_with (at_builtin; refine Kd.R_append (Kd.fixed k43 w) (w0 := w) w.heap.size rfl _ _ 35 43 _ 48 rfl Try.underlying35 info43 rfl (show 0 < 4 by decide) (by decide) (.slice T9 tl.length c9) tl (⟨x.f0, 7, x.f2, x.f3⟩ : S43) [.int .i64 x.f0, .int .u64 7, .slice A0 x.f2.length c0, .int .i64 x.f3] (fun _ => True) (fun _ => False) rfl (by first | rfl | (go_simp; done) | (simp; done)) (k43_mk w (⟨x.f0, 7, x.f2, x.f3⟩ : S43) HCC0.out HC0.out) (fun _ h => h.elim) (fun _ _ => trivial) (Kd.R_alloc hR.out _) (below_alloc hB.out _) (by have := hB.out.size; simp; omega) (by have := HLEN.out; omega) ?_; intro v1 w1 hR1 hB1 hg1 hat1; have HR1 := Aside0.mk hR1; have HB1 := Aside0.mk hB1; clear hR1 hB1 hg1 hat1)
                      go_roundw
                      case rel => exact ⟨k + 1, kn + 1, fr, by omega, by go_num, rfl, rfl, ⟨by omega, by omega⟩, H2, ⟨by rw [← H1.out]; exact HR1.out⟩, HB1⟩
                      case measure => simp [intOf]; omega
              · have hge : ¬ (k : Int) < (a.length : Int) := by omega
                have hke : a.take k = a := List.take_of_length_le (by omega)
                rw [hke] at hK
                have ht7 : tl = a.map seven := by rw [HTL.out, hke]
                have HT7 := Aside0.mk ht7
                obtain ⟨T, tc, rfl, htc, hT⟩ := fixed_reads hR.out hB.out
                have HT := Aside0.mk hT
                have HTC := Aside0.mk htc
                have hv3 : decide (kn < 2) = true ↔ SameP a tl := by
                  rw [ht7, seven_same, ← hK.out, decide_eq_true_eq]
                have HV3 := Aside0.mk hv3
                obtain ⟨v3, hv⟩ : ∃ v, v = decide (kn < 2) := ⟨_, rfl⟩
                rw [← hv] at HV3
                have HV := Aside0.mk hv
                clear hke hT htc hv3 hv ht7
                go_wp2_with fail
                refine (c_same (Kd.C_below HA.out hB.out) HCA.out HT.out HTC.out LA.out (by rw [HT7.out]; exact few_seven LA.out) v3 HV3.out).mono ?_
                rintro e w9 ⟨rfl, hb⟩
                have HB9 := Aside0.mk (below_step hB.out hb)
                clear hb
                go_wp2_with fail
                go_ret
                exact ⟨by rw [HV.out]; simp, HB9.out⟩
end Go.Proofs.Ytabmmdpioennfaa.Re
