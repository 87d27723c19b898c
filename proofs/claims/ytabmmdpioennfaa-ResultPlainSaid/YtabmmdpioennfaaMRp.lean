/- ResultPlain, walked by hand: any results, plain, are the document's; what was handed in is as it was. -/
import Derived.Test.YtabmmdpioennfaaMResWalk
import Derived.Test.YtabmmdpioennfaaRNumber
set_option linter.unusedVariables false
set_option linter.unusedSimpArgs false
namespace Go.Proofs.Ytabmmdpioennfaa.Re
open Go.RowKit Go.Proofs.YtabmmdpioennfaaW.PrintWords Go.Proofs.YtabmmdpioennfaaW.PrintLast Go.Proofs.YtabmmdpioennfaaW.PrintMore
attribute [local go_sem] max2_int min2_int
theorem rd_set_other {p : List S43} {i j : Nat} (x : S43) (h : i ≠ j) : rd_T43 (p.set i x) (j : Int) = rd_T43 p (j : Int) := by
  unfold rd_T43
  rw [Int.toNat_natCast, List.getD_eq_getElem?_getD, List.getD_eq_getElem?_getD, List.getElem?_set_ne h]
/-- A byte of an element's own data is written. -/
theorem data_set {w : World} {base : Nat} {ok : Nat → Prop} {pd : Addr} {n c : Nat} {p : List S43} (h : Kd.S k43 43 w base ok (.slice (some pd) n c) p) {k : Nat} (hk : k < n) (hd : 0 < (rd_T43 p (k : Int)).f2.length) :
    ∃ ib ic, w.cell? ⟨(pd.add (k * 4)).block, (pd.add (k * 4)).off + 2, none⟩ = some (.slice (some ⟨ib, 0, none⟩) (rd_T43 p (k : Int)).f2.length ic) ∧ w.cell? ⟨ib, 0, none⟩ = some (.int .u8 (rd (rd_T43 p (k : Int)).f2 0)) ∧ w.frozen? ⟨ib, 0, none⟩ = false ∧ base ≤ ib ∧ (∃ cells, w.heap[ib]? = some (.cells cells 5 (0, 0))) ∧
      ∀ u : Int, ∃ x', Kd.S k43 43 (w.setCell ⟨ib, 0, none⟩ (.int .u8 u)) base ok (.slice (some pd) n c) (p.set k x') := by
  obtain ⟨oki, cs, hcl, hM, hcc, hoki, hback⟩ := Kd.S_borrow h z43 (k : Int) (by omega) (by omega)
  obtain ⟨v2, rfl, g2⟩ := k43_openM hM
  have g3 : (Kd.int .u8).R 5 w base oki v2 (rd_T43 p (k : Int)).f2 := g2
  obtain ⟨ib, ic, rfl, hbb, hlt, hcells⟩ := Kd.R_form g3 hd
  have hc2 := hcc 2 _ rfl
  have hoff : pd.add ((k : Int).toNat * k43.sz + 2) = ⟨(pd.add (k * 4)).block, (pd.add (k * 4)).off + 2, none⟩ := by
    rw [Int.toNat_natCast]; exact add_field pd (k * 4) 2 (by omega)
  rw [hoff] at hc2
  obtain ⟨ce, hce, hMe, hcce, hfre⟩ := Kd.R_elem g3 (0 : Int) (0 : Int) (by omega) (by omega)
  have hce2 : ce = [.int .u8 (rd (rd_T43 p (k : Int)).f2 0)] := hMe
  subst hce2
  have hown : oki ib := g3.1 ib (by simp [Value.ownBlock])
  have e1 := hcce 0 _ rfl
  have f1 := hfre 0
  refine ⟨ib, ic, hc2, e1, f1, hbb, hcells, fun u => ?_⟩
  have hs := Kd.R_seg g3 (0 : Int) (by omega) (by omega) (c := [.int .u8 (rd (rd_T43 p (k : Int)).f2 0)]) (seg := [.int .u8 u]) (j := 0) (x' := u) (okp := fun _ => False) rfl hcce (show 0 + 1 ≤ 1 by decide) rfl (fun _ h => h.elim)
  have hsw : w.setCells ib ((0 : Int).toNat * (Kd.int .u8).sz + 0) [.int .u8 u] = w.setCell ⟨ib, 0, none⟩ (.int .u8 u) := rfl
  rw [hsw] at hs
  have hlen : ((rd_T43 p (k : Int)).f2.set (0 : Int).toNat u).length = (rd_T43 p (k : Int)).f2.length := by simp
  refine ⟨⟨(rd_T43 p (k : Int)).f0, (rd_T43 p (k : Int)).f1, (rd_T43 p (k : Int)).f2.set (0 : Int).toNat u, (rd_T43 p (k : Int)).f3⟩, ?_⟩
  have hb := hback (row := some ib) (x' := ⟨(rd_T43 p (k : Int)).f0, (rd_T43 p (k : Int)).f1, (rd_T43 p (k : Int)).f2.set (0 : Int).toNat u, (rd_T43 p (k : Int)).f3⟩) hs.2 (fun j hj => by injection hj with hj; rw [← hj]; exact hown) (k43_mkM _ _ _ ⟨(rd_T43 p (k : Int)).f0, (rd_T43 p (k : Int)).f1, (rd_T43 p (k : Int)).f2.set (0 : Int).toNat u, (rd_T43 p (k : Int)).f3⟩ hs.1)
  rw [Int.toNat_natCast] at hb
  exact hb
theorem c_number {A : Option Addr} {c : Nat} {l : List S43} {w : World} {k n : Nat} (hn : n = (l.map toR).length) (hC : Kd.C k45 w A n (l.map toR)) (hc : n ≤ c) (hl : l.length ≤ 1000) (hk : k < l.length) :
    Calls Try.prog 24 #[.slice A n c, .int .i64 k] w fun e w' => e = .returned (.int .u64 (NN (hd l) k)) ∧ Below w.heap.size w w' := by
  subst hn
  obtain ⟨K, hK⟩ := number_model hk hl
  exact (steadingref21_Number.calls K A c (l.map toR) k _ w hC hc (hK K (Nat.le_refl _))).mono fun e w' ⟨he, hd⟩ => ⟨he, drawn_below hd⟩
theorem conv_bytes {A : Option Addr} {c : Nat} {l : List Int} {w : World} (hC : (Kd.int .u8).C w A l.length l) : (convert 41 9 (.slice A l.length c)).run Try.prog w = .ok (.string (strOfNums l)) w :=
  Kd.C_string (P := Try.prog) (A := A) (c := c) Try.underlying41 Try.underlying5 Try.underlying9 hC
set_option maxHeartbeats 16000000 in
set_option maxRecDepth 100000 in
theorem rplain_walk (A : Option Addr) (ca : Nat) (l : List S43) (w : World) (hA : Kd.C k43 w A l.length l) (hca : l.length ≤ ca) (wa : wfL l) :
    Calls Try.prog 8 #[.slice A l.length ca] w fun e w' => e = .returned (.bool true) ∧ Below w.heap.size w w' := by
  have HA := Aside0.mk hA
  have HCA := Aside0.mk hca
  have WA := Aside0.mk wa
  clear hA hca wa
  obtain ⟨fa, hfa⟩ : ∃ v, v = fewR l := ⟨_, rfl⟩
  have FA := Aside0.mk hfa
  clear hfa
  go_enter Try.func8, Try.ntmps8
  go_wp2_with fail
  refine (c_awake _).mono ?_
  rintro e w1 ⟨rfl, hb⟩
  have HB1 := Aside0.mk hb
  clear hb
  go_wp2_with fail
  refine (c_few (Kd.C_below HA.out HB1.out) HCA.out WA.out).mono ?_
  rw [← FA.out]
  rintro e w2 ⟨rfl, hb⟩
  have HB2 := Aside0.mk (below_step HB1.out hb)
  clear hb
  cases fa with
  | false =>
    go_wp2_with fail
    go_ret
    exact ⟨rfl, HB2.out⟩
  | true =>
    have LA := Aside0.mk (fewR_L WA.out FA.out.symm)
    have hl60 : l.length ≤ 60 := fewR_len FA.out.symm
    obtain ⟨m, hm⟩ : ∃ m, m = l.map toR := ⟨_, rfl⟩
    obtain ⟨p0, hp0⟩ : ∃ p, p = plainF l := ⟨_, rfl⟩
    have HM := Aside0.mk hm
    have HP0 := Aside0.mk hp0
    have hml : m.length = l.length := by rw [hm, List.length_map]
    have hpl : p0.length = l.length := by rw [hp0, plainF_length]
    have HML := Aside0.mk hml
    have HPL := Aside0.mk hpl
    clear hm hp0 hml hpl
    go_wp2_with fail
    refine (steadinglaw21_model.calls (l.length + 1) A ca l m _ (Kd.C_below HA.out HB2.out) HCA.out (by rw [HM.out]; exact model_is l (by omega) (Nat.lt_succ_self _))).mono ?_
    rintro e w3 ⟨vm, rfl, hR, hb⟩
    obtain ⟨Am, cm, rfl⟩ := Kd.R_slice hR
    rw [HML.out] at hR ⊢
    have HM3 := Aside0.mk (Kd.R_lower hR HB2.out.size)
    have HB3 := Aside0.mk (below_step HB2.out hb)
    clear hR hb
    go_wp2_with fail
    refine (result_Plain.calls A ca l p0 _ (Kd.C_below HA.out HB3.out) HCA.out (by unfold result_Plain.f; rw [if_pos LA.out, HP0.out])).mono ?_
    rintro e w4 ⟨vp, rfl, hS, hb⟩
    obtain ⟨Ap, cp, rfl⟩ := Kd.S_slice hS
    rw [HPL.out] at hS ⊢
    have HS4 := Aside0.mk (Kd.S_lower hS HB3.out.size)
    have HM4 := Aside0.mk (Kd.R_below HM3.out hb)
    have HB4 := Aside0.mk (below_step HB3.out hb)
    clear hS hb
    have hF0 : hasFull l = (false || hasFull (l.drop 0)) := by rw [Bool.false_or, List.drop_zero]
    have HF0 := Aside0.mk hF0
    have HG0 := Aside0.mk (show ∀ j : Nat, 0 ≤ j → j < l.length → rd_T43 p0 (j : Int) = rd_T43 (plainF l) (j : Int) from fun j _ _ => by rw [HP0.out])
    clear hF0
    go_wp2
    go_loopw [7, 8] (fun fv iv wr => ∃ (k : Nat) (full : Bool) (p : List S43), k ≤ l.length ∧ iv = .int .i64 k ∧ fv = .bool full ∧ Aside0 (hasFull l = (full || hasFull (l.drop k))) ∧ Aside0 (p.length = l.length ∧ ∀ j : Nat, k ≤ j → j < l.length → rd_T43 p (j : Int) = rd_T43 (plainF l) (j : Int)) ∧ Aside0 (Kd.S k43 43 wr w.heap.size (fun _ => True) (.slice Ap l.length cp) p) ∧ Aside0 (k45.R 45 wr w.heap.size (fun _ => True) (.slice Am l.length cm) m) ∧ Aside0 (Below w.heap.size w wr)) (fun fv iv _ => l.length - (intOf iv).toNat)
    case atStart => exact ⟨0, false, p0, Nat.zero_le _, rfl, rfl, HF0, ⟨HPL.out, HG0.out⟩, HS4, HM4, HB4⟩
    case round =>
      obtain ⟨k, full, p, hk, rfl, rfl, hF, hP, hS, hM, hB⟩ := hrel
      clear HF0 HG0 HS4 HM4 HB4
      by_cases hlt : k < l.length
      · obtain ⟨ad, A0, c0, hAd, e0, e1, e2, e3, hc0, hC0⟩ := at_T43 HA.out (k : Int) (by omega) (by omega)
        obtain ⟨pd, P0, pc0, hPd, g0, g1, g2, g3, hpc0, hPC0⟩ := at_T43 (Kd.S_reads' hS.out).2.2 (k : Int) (by omega) (by rw [hP.out.1]; omega)
        obtain ⟨md, hMd, m0, m1, m2, m3⟩ := at_T45 (Kd.R_reads' hM.out).2.2 (k : Int) (by omega) (by rw [HML.out]; omega)
        subst hAd hPd hMd
        have hpk := hP.out.2 k (Nat.le_refl _) hlt
        rw [plainF_rd hlt] at hpk
        have hmk : rd_T45 m (k : Int) = toR (rd_T43 l (k : Int)) := by rw [HM.out]; exact rd45_map hlt
        have hPN := Aside0.mk (show (rd_T43 p (k : Int)).f2 = (rd_T43 l (k : Int)).f2 by rw [hpk])
        have hdset := Aside0.mk (fun (h : 0 < (rd_T43 l (k : Int)).f2.length) => data_set hS.out (k := k) hlt (by rw [hPN.out]; exact h))
        rw [hpk] at g0 g1 g2 g3 hpc0 hPC0
        rw [hmk] at m0 m1 m2 m3
        simp only [toR] at m0 m1 m2 m3
        obtain ⟨x, hx⟩ : ∃ x, x = rd_T43 l (k : Int) := ⟨_, rfl⟩
        obtain ⟨N, hN⟩ : ∃ N, N = NN (hd l) k := ⟨_, rfl⟩
        obtain ⟨s, hs⟩ : ∃ s, s = strOfNums x.f2 := ⟨_, rfl⟩
        simp only [← hx, ← hN] at e0 e1 e2 e3 g0 g1 g2 g3 m0 m1 m2 m3 hPC0 hdset hpc0
        rw [← hs] at m2
        simp only [Int.toNat_natCast] at e0 e1 e2 e3 g0 g1 g2 g3 m0 m1 m2 m3
        have hfull : hasFull l = ((full || (x.f0 == 4)) || hasFull (l.drop (k + 1))) := by
          rw [hF.out, List.drop_eq_getElem_cons hlt, hx, rd43_get hlt]; unfold hasFull; rw [List.any_cons, Bool.or_assoc]
        have HFU := Aside0.mk hfull
        have HX := Aside0.mk hx
        have HN := Aside0.mk hN
        have hcv : ∀ W, Below wr.heap.size wr W → (convert 41 9 (.slice P0 x.f2.length pc0)).run Try.prog W = .ok (.string s) W := fun W h => by rw [hs]; exact conv_bytes (Kd.C_below hPC0 h)
        have E1 := Aside0.mk e1
        have hin : 0 ≤ (k : Int) ∧ (k : Int) < (l.length : Int) := by omega
        have hin2 : (k : Int) < (l.length : Int) := by omega
        have q1 : ∀ W, Below wr.heap.size wr W → W.cell? ⟨(ad.add (k * 4)).block, (ad.add (k * 4)).off + 1, none⟩ = some (.int .u64 x.f1) := fun W h => pw_cell_below h (pw_cell_below hB.out E1.out)
        have a0 : ∀ W, Below wr.heap.size wr W → W.cell? (pd.add (k * 4)) = some (.int .i64 x.f0) := fun W h => pw_cell_below h g0
        have a1 : ∀ W, Below wr.heap.size wr W → W.cell? ⟨(pd.add (k * 4)).block, (pd.add (k * 4)).off + 1, none⟩ = some (.int .u64 N) := fun W h => pw_cell_below h g1
        have a2 : ∀ W, Below wr.heap.size wr W → W.cell? ⟨(pd.add (k * 4)).block, (pd.add (k * 4)).off + 2, none⟩ = some (.slice P0 x.f2.length pc0) := fun W h => pw_cell_below h g2
        have a3 : ∀ W, Below wr.heap.size wr W → W.cell? ⟨(pd.add (k * 4)).block, (pd.add (k * 4)).off + 3, none⟩ = some (.int .i64 x.f3) := fun W h => pw_cell_below h g3
        have b0 : ∀ W, Below wr.heap.size wr W → W.cell? (md.add (k * 4)) = some (.int .i64 x.f0) := fun W h => pw_cell_below h m0
        have b1 : ∀ W, Below wr.heap.size wr W → W.cell? ⟨(md.add (k * 4)).block, (md.add (k * 4)).off + 1, none⟩ = some (.int .u64 x.f1) := fun W h => pw_cell_below h m1
        have b2 : ∀ W, Below wr.heap.size wr W → W.cell? ⟨(md.add (k * 4)).block, (md.add (k * 4)).off + 2, none⟩ = some (.string s) := fun W h => pw_cell_below h m2
        have b3 : ∀ W, Below wr.heap.size wr W → W.cell? ⟨(md.add (k * 4)).block, (md.add (k * 4)).off + 3, none⟩ = some (.int .i64 x.f3) := fun W h => pw_cell_below h m3
        have G2 := Aside0.mk g2
        have M0 := Aside0.mk m0
        have HPC0 := Aside0.mk hPC0
        clear e0 e1 e2 e3 g0 g1 g2 g3 m0 m1 m2 m3 hs hx hN hC0 hc0 hPC0 hpc0 hpk hmk hfull
        go_wp2
        go_region_held3 (fun w' => Below wr.heap.size wr w')
          (first | assumption | exact below_drew (Below.refl _ _) | exact below_step (by assumption) hb5)
          ((go_at_call 24; (with_reducible refine (c_number (l := l) (by rw [List.length_map]) (by rw [← HM.out]; exact Kd.C_below (by have := (Kd.R_reads' hM.out).2.2; rw [HML.out] at this; exact this) (by assumption)) (Kd.R_reads' hM.out).2.1 (by omega) hlt).mono ?_); rw [← HN.out]; rintro e w5 ⟨rfl, hb5⟩))
        rename_i hHeld
        have HB5 := Aside0.mk (below_step hB.out hHeld)
        have HM5 := Aside0.mk (Kd.R_below hM.out hHeld)
        have HS5 := Aside0.mk (Kd.S_below hS.out hHeld)
        have M05 := pw_cell_below hHeld M0.out
        have hdset5 := Aside0.mk (fun (h : 0 < x.f2.length) => data_set HS5.out (k := k) hlt (by rw [hPN.out, ← HX.out]; exact h))
        have g25 := pw_cell_below hHeld G2.out
        clear hHeld q1 a0 a1 a2 a3 b0 b1 b2 b3 hcv
        have hpnext : ∀ (x' : S43), (p.set k x').length = l.length ∧ ∀ j : Nat, k + 1 ≤ j → j < l.length → rd_T43 (p.set k x') (j : Int) = rd_T43 (plainF l) (j : Int) := fun x' => ⟨by rw [List.length_set]; exact hP.out.1, fun j h1 h2 => (rd_set_other _ (by omega)).trans (hP.out.2 j (by omega) h2)⟩
        have HPN := Aside0.mk hpnext
        have HP1 := Aside0.mk (show p.length = l.length ∧ ∀ j : Nat, k + 1 ≤ j → j < l.length → rd_T43 p (j : Int) = rd_T43 (plainF l) (j : Int) from ⟨hP.out.1, fun j h1 h2 => hP.out.2 j (by omega) h2⟩)
        obtain ⟨nf, hnf⟩ : ∃ nf, nf = (full || (x.f0 == 4)) := ⟨_, rfl⟩
        have HNF := Aside0.mk hnf
        have HFN := Aside0.mk (show hasFull l = (nf || hasFull (l.drop (k + 1))) by rw [hnf]; exact HFU.out)
        clear hpnext
        by_cases hz : 0 < x.f2.length
        · obtain ⟨ib, ic, i1, i2, i3, i4, ⟨cells, i5⟩, i6⟩ := hdset5.out hz
          rw [hPN.out, ← HX.out] at i1 i2
          have hsl : (.slice P0 x.f2.length pc0 : Value) = .slice (some ⟨ib, 0, none⟩) x.f2.length ic := Option.some.inj (g25.symm.trans i1)
          clear g25
          have I5 := Aside0.mk i5
          have hz1 : (x.f2.length : Int) > 0 := by omega
          have hz2 : (0 : Int) < (x.f2.length : Int) := by omega
          clear hsl i5
          have I6 := Aside0.mk i6
          clear i6
          cases full with
          | true =>
            go_wp2
            go_roundw
            case rel =>
              obtain ⟨x', hx'⟩ := I6.out _
              exact ⟨k + 1, true, _, by omega, by go_num, rfl, ⟨by have := HFN.out; rw [HNF.out] at this; exact this⟩, ⟨HPN.out _⟩, ⟨hx'⟩, ⟨Kd.R_set HM5.out I5.out (by decide) _ _⟩, ⟨HB5.out.setCell (p := ⟨ib, 0, none⟩) i4 _⟩⟩
            case measure => simp [intOf]; omega
          | false =>
            go_wp2
            go_roundw
            case rel =>
              obtain ⟨x', hx'⟩ := I6.out _
              exact ⟨k + 1, x.f0 == 4, _, by omega, by go_num, rfl, ⟨by have := HFN.out; rw [HNF.out, Bool.false_or] at this; exact this⟩, ⟨HPN.out _⟩, ⟨hx'⟩, ⟨Kd.R_set HM5.out I5.out (by decide) _ _⟩, ⟨HB5.out.setCell (p := ⟨ib, 0, none⟩) i4 _⟩⟩
            case measure => simp [intOf]; omega
        · have hz1 : ¬ (x.f2.length : Int) > 0 := by omega
          have hz2 : ¬ (0 : Int) < (x.f2.length : Int) := by omega
          cases full with
          | true =>
            go_wp2
            go_roundw
            case rel => exact ⟨k + 1, true, p, by omega, by go_num, rfl, ⟨by have := HFN.out; rw [HNF.out] at this; exact this⟩, HP1, HS5, HM5, HB5⟩
            case measure => simp [intOf]; omega
          | false =>
            go_wp2
            go_roundw
            case rel => exact ⟨k + 1, x.f0 == 4, p, by omega, by go_num, rfl, ⟨by have := HFN.out; rw [HNF.out, Bool.false_or] at this; exact this⟩, HP1, HS5, HM5, HB5⟩
            case measure => simp [intOf]; omega
      · have hge : ¬ (k : Int) < (l.length : Int) := by omega
        have hff : hasFull l = full := by have := hF.out; rwa [List.drop_eq_nil_of_le (by omega), show hasFull [] = false from rfl, Bool.or_false] at this
        have HFF := Aside0.mk hff
        have HB9 := hB
        have HM9 := hM
        clear hff hF hP hS hM hB
        go_wp2
        go_loopw [9] (fun iv wr => ∃ (j : Nat), j ≤ l.length ∧ iv = .int .i64 j ∧ Aside0 (k45.R 45 wr w.heap.size (fun _ => True) (.slice Am l.length cm) m) ∧ Aside0 (Below w.heap.size w wr)) (fun iv _ => l.length - (intOf iv).toNat)
        case atStart => exact ⟨0, Nat.zero_le _, rfl, HM9, HB9⟩
        case round =>
          obtain ⟨j, hj, rfl, hM, hB⟩ := hrel
          clear HB9 HM9
          by_cases hjl : j < l.length
          · obtain ⟨ad, A0, c0, hAd, e0, e1, e2, e3, hc0, hC0⟩ := at_T43 (Kd.C_below HA.out hB.out) (j : Int) (by omega) (by omega)
            obtain ⟨md, hMd, m0, m1, m2, m3⟩ := at_T45 (Kd.R_reads' hM.out).2.2 (j : Int) (by omega) (by rw [HML.out]; omega)
            subst hAd hMd
            have hmk : rd_T45 m (j : Int) = toR (rd_T43 l (j : Int)) := by rw [HM.out]; exact rd45_map hjl
            rw [hmk] at m2
            simp only [toR] at m2
            obtain ⟨x, hx⟩ : ∃ x, x = rd_T43 l (j : Int) := ⟨_, rfl⟩
            obtain ⟨s, hs⟩ : ∃ s, s = strOfNums x.f2 := ⟨_, rfl⟩
            simp only [← hx] at e2 m2 hC0 hc0
            rw [← hs] at m2
            simp only [Int.toNat_natCast] at e2 m2
            have hcv : ∀ W, Below wr.heap.size wr W → (convert 41 9 (.slice A0 x.f2.length c0)).run Try.prog W = .ok (.string s) W := fun W h => by rw [hs]; exact conv_bytes (Kd.C_below hC0 h)
            have hin : 0 ≤ (j : Int) ∧ (j : Int) < (l.length : Int) := by omega
            have hin2 : (j : Int) < (l.length : Int) := by omega
            have a2 : ∀ W, Below wr.heap.size wr W → W.cell? ⟨(ad.add (j * 4)).block, (ad.add (j * 4)).off + 2, none⟩ = some (.slice A0 x.f2.length c0) := fun W h => pw_cell_below h e2
            have b2 : ∀ W, Below wr.heap.size wr W → W.cell? ⟨(md.add (j * 4)).block, (md.add (j * 4)).off + 2, none⟩ = some (.string s) := fun W h => pw_cell_below h m2
            clear e0 e1 e2 e3 m0 m1 m2 m3 hs hx hC0 hc0 hmk
            go_wp2
            go_region_held3 (fun w' => Below wr.heap.size wr w')
              (first | assumption | exact below_drew (Below.refl _ _))
              (fail)
            rename_i hHeld
            have HB5 := Aside0.mk (below_step hB.out hHeld)
            have HM5 := Aside0.mk (Kd.R_below hM.out hHeld)
            clear hHeld a2 b2 hcv
            go_wp2
            go_roundw
            case rel => exact ⟨j + 1, by omega, by go_num, HM5, HB5⟩
            case measure => simp [intOf]; omega
          · have hgej : ¬ (j : Int) < (l.length : Int) := by omega
            go_wp2_with fail
            refine (result_Full.calls A ca l full _ (Kd.C_below HA.out hB.out) HCA.out (by unfold result_Full.f; rw [if_pos LA.out, HFF.out])).mono ?_
            rintro e w9 ⟨rfl, hb⟩
            have HB10 := Aside0.mk (below_step hB.out hb)
            clear hb
            go_wp2_with fail
            go_ret
            exact ⟨by simp, HB10.out⟩
end Go.Proofs.Ytabmmdpioennfaa.Re
