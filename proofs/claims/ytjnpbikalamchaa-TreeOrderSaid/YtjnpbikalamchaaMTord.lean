/- TreeOrder, walked by hand: in an order each thing comes once, behind all that stand below it, itself at the end. -/
import Derived.Test.YtjnpbikalamchaaMBuild
import Derived.Test.YtjnpbikalamchaaMOrdT
import Derived.BigQuiet
import Derived.KernelRfl
set_option linter.unusedVariables false
set_option linter.unusedSimpArgs false
namespace Go.Proofs.Ytjnpbikalamchaa.Tr
open Go.RowKit Go.Maps Go.Proofs.YtjnpbikalamchaaW.PrintWords Go.Proofs.YtjnpbikalamchaaW.PrintLast Go.Proofs.YtjnpbikalamchaaW.PrintMore
open Go.Proofs.Ytjnpbikalamchaa.Rf
attribute [local go_sem] max2_int min2_int
attribute [local go_sem] bne
theorem info3' : (Try.prog.info? 3).map (fun i => (i.zero, i.size, i.bytes)) = some (some (.int .i64 0), 1, 8) := by kernel_rfl
set_option maxRecDepth 100000 in
set_option maxHeartbeats 16000000 in
theorem tord_walk (A : Option Addr) (c : Nat) (ps : List Int) (w : World) (ki : Int) (hC : OrdC w A ps) (hwf : ∀ x ∈ ps, 0 ≤ x ∧ x ≤ 255) (hk : 0 ≤ ki ∧ ki ≤ 255) :
    Calls Try.prog 4 #[.slice A ps.length c, .int .u8 ki] w fun e w' => e = .returned (.bool true) ∧ Below w.heap.size w w' := by
  have HC := Aside0.mk hC
  have HWF := Aside0.mk hwf
  obtain ⟨base, hbs⟩ : ∃ b, b = w.heap.size := ⟨_, rfl⟩
  have HBA := Aside0.mk (Nat.le_of_eq hbs)
  have HBE := Aside0.mk hbs
  clear hbs hC hwf
  by_cases hlen : 40 < ps.length
  · have h80 : (40 : Int) < (ps.length : Int) := by omega
    go_enter Try.func4, Try.ntmps4
    go_wp2_with fail
    refine (awake_calls w).mono ?_
    rintro e w1 ⟨rfl, hb1⟩
    have HB1 := Aside0.mk hb1
    clear hb1
    go_wp2_with fail
    go_ret
    exact ⟨rfl, HB1.out⟩
  · have h80 : ¬ (40 : Int) < (ps.length : Int) := by omega
    by_cases hnil : ps.length = 0
    · have hn0 : ((ps.length : Int) == 0) = true := by rw [hnil]; rfl
      go_enter Try.func4, Try.ntmps4
      go_wp2_with fail
      refine (awake_calls w).mono ?_
      rintro e w1 ⟨rfl, hb1⟩
      have HB1 := Aside0.mk hb1
      clear hb1
      go_wp2_with fail
      go_ret
      exact ⟨rfl, HB1.out⟩
    have hn0 : ((ps.length : Int) == 0) = false := by rw [beq_eq_false_iff_ne]; omega
    have hnn : ¬ (ps.length : Int) = 0 := by omega
    go_enter Try.func4, Try.ntmps4
    go_wp2_with fail
    refine (awake_calls w).mono ?_
    rintro e w1 ⟨rfl, hb1⟩
    have HB1 := Aside0.mk hb1
    clear hb1
    go_wp2_with fail
    refine (ps_new w1 base (Nat.le_trans HBA.out HB1.out.size)).mono ?_
    rintro e w2 ⟨g, rfl, hP2, hb2⟩
    have HP2 := Aside0.mk hP2
    have HB2 := Aside0.mk (show Below base w w2 from (HB1.out.mono HBA.out).trans hb2)
    clear hP2 hb2 HB1
    go_wp2_with fail
    go_loopw [7] (fun i wr => ∃ q : Nat, q ≤ ps.length ∧ i = .int .i64 q ∧ Aside0 (PS wr base g (bT ps q) (.slice none 0 0) [] [] []) ∧ Aside0 (Below base w wr)) (fun i _ => ps.length - (intOf i).toNat)
    case atStart => exact ⟨0, Nat.zero_le _, rfl, HP2, HB2⟩
    case round =>
      clear HP2 HB2
      obtain ⟨q, hq, rfl, hP, hB⟩ := hrel
      by_cases hlt : q < ps.length
      · obtain ⟨ad, hA, hcell⟩ := HC.out (by omega)
        subst hA
        have e0 := hcell q hlt
        have hblt := World.block_lt_of_cell? w _ e0
        replace e0 := (hB.out.cell (by rw [HBE.out]; exact hblt)).trans e0
        have hok := HWF.out (ps.getD q 0) (by rw [List.getD_eq_getElem?_getD, List.getElem?_eq_getElem hlt]; exact List.getElem_mem hlt)
        have hin1 : 0 ≤ (q : Int) ∧ (q : Int) < (ps.length : Int) := by omega
        have hin2 : (q : Int) < (ps.length : Int) := by omega
        have HBT := Aside0.mk (bT_add ps q)
        obtain ⟨x, hx⟩ : ∃ x, x = ps.getD q 0 := ⟨_, rfl⟩
        rw [← hx] at e0 hok HBT
        have hmr := mod_range x q
        have htm : Int.tmod x ((q : Int) + 1) = x % ((q : Int) + 1) := Int.tmod_eq_emod_of_nonneg hok.1
        obtain ⟨r, hr⟩ : ∃ r, r = x % ((q : Int) + 1) := ⟨_, rfl⟩
        rw [← hr] at hmr htm HBT
        have HP := hP
        clear hcell hblt hx hr hP
        go_wp2_with fail
        refine (ps_add HP.out (id := (q : Int) + 1) (p := r) (by unfold Tr.u64; omega) (by unfold Tr.u64; omega) (by rw [bT_len]; omega)).mono ?_
        rw [HBT.out.1, HBT.out.2]
        rintro e w3 ⟨rfl, hP3, hb3⟩
        have HP3 := Aside0.mk hP3
        have HB3 := Aside0.mk (hB.out.trans hb3)
        clear hP3 hb3
        go_wp2_with fail
        go_roundw
        case rel => exact ⟨q + 1, by omega, by go_num, HP3, HB3⟩
        case measure => simp [intOf]; omega
      · obtain rfl : q = ps.length := by omega
        have hnq : ¬ (ps.length : Int) < (ps.length : Int) := by omega
        have hps : 1 ≤ ps.length ∧ ps.length ≤ 40 := by omega
        have hmk := Int.emod_nonneg ki (show (ps.length : Int) ≠ 0 by omega)
        have hmk2 := Int.emod_lt_of_pos ki (show (0 : Int) < (ps.length : Int) by omega)
        obtain ⟨id, hid⟩ : ∃ id, id = ki % (ps.length : Int) + 1 := ⟨_, rfl⟩
        have HCV := Aside0.mk (show IntKind.u64.wrap (IntKind.u64.wrap (ki % (ps.length : Int)) + 1) = id by rw [IntWalk.u64_in (ki % (ps.length : Int)) (by omega), IntWalk.u64_in (ki % (ps.length : Int) + 1) (by omega), hid])
        have hid1 : 1 ≤ id ∧ id ≤ (ps.length : Int) := by omega
        clear hid hmk hmk2
        have HIN := Aside0.mk (show id ∈ ids (bT ps ps.length) from mem_bT.2 hid1)
        have HLN := Aside0.mk (bT_len ps ps.length)
        have HMB := Aside0.mk (fun y : Int => mem_bT (ps := ps) (k := ps.length) (y := y))
        have HPL := Aside0.mk (fun (y : Int) (h1 : 1 ≤ y) (h2 : y ≤ (ps.length : Int)) => bT_par_lt (ps := ps) (k := ps.length) (by omega) h1 h2)
        obtain ⟨l, hl⟩ : ∃ l, l = bT ps ps.length := ⟨_, rfl⟩
        rw [← hl] at hP HIN HLN HMB HPL
        clear hl
        have HW := Aside0.mk hP.out.wft
        have HIDU := Aside0.mk (show Tr.u64 id by unfold Tr.u64; omega)
        have HL60 := Aside0.mk (show l.length ≤ 40 by have := HLN.out; omega)
        have HTH := Aside0.mk (ordTh HW.out HIN.out)
        have hol := ord_le HW.out id
        obtain ⟨L, hL⟩ : ∃ L, L = ord l id := ⟨_, rfl⟩
        have HLE := Aside0.mk hL
        rw [← hL] at HTH hol
        have hLl : 1 ≤ L.length ∧ L.length ≤ 41 := by have := HTH.out.pos; have := HL60.out; omega
        have HLR := Aside0.mk (show ∀ y ∈ L, 1 ≤ y ∧ y ≤ (ps.length : Int) from fun y hy => (HMB.out y).1 (HTH.out.rng y hy))
        clear hL hol
        have hmake : ∀ W : World, (Instr.makeSlice 48 (.int .i64 ((ps.length : Int) + 1)) (.int .i64 ((ps.length : Int) + 1))).run Try.prog W = .ok (.slice (some ⟨W.heap.size, 0, none⟩) (ps.length + 1) (ps.length + 1)) (W.alloc (.cells (madeCells #[.int .i64 0] (ps.length + 1)) 3)) := by
          have h := print_make_int (P := Try.prog) 48 3 (.int .i64 0) 8 Try.underlying48 info3' rfl (by decide) ((ps.length : Int) + 1) (by omega) (by omega)
          rw [show ((ps.length : Int) + 1).toNat = ps.length + 1 by omega] at h
          exact h
        go_wp2_with fail
        rw [HCV.out]
        refine (ps_order hP.out HIDU.out (by have := HL60.out; omega)).mono ?_
        rw [← HLE.out]
        rintro e w4 ⟨u4, rfl, hP4, hb4⟩
        obtain ⟨A4, c4, rfl, _, _⟩ := hP4.row List.mem_cons_self
        have H5 := Aside0.mk (hP4.make 3 .i64 3 (ps.length + 1) (Nat.le_refl _) (by omega))
        have B5 := Aside0.mk ((hB.out.trans hb4).trans ((below_alloc (Below.refl w4.heap.size w4) (.cells (madeCells #[.int .i64 0] (ps.length + 1)) 3)).mono hP4.size))
        have HAT0 := Aside0.mk (at_start L ps.length)
        clear hP4 hb4 hP hB
        obtain ⟨W5, hW5⟩ : ∃ W, W = w4.alloc (.cells (madeCells #[.int .i64 0] (ps.length + 1)) 3) := ⟨_, rfl⟩
        obtain ⟨ab, hab⟩ : ∃ b, b = w4.heap.size := ⟨_, rfl⟩
        rw [← hW5, ← hab] at H5
        rw [← hW5] at B5
        have HWW := Aside0.mk hW5
        have HAB := Aside0.mk hab
        clear hW5 hab
        go_wp2_with fail
        rw [← HWW.out, ← HAB.out]
        clear HWW HAB hmake
        go_loopw [11] (fun vj wr => ∃ (j : Nat) (xs : List Int), j ≤ L.length ∧ vj = .int .i64 j ∧ Aside0 (AtT L j ps.length xs) ∧ Aside0 (PS wr base g l (.slice none 0 0) [] [(.slice A4 L.length c4, L)] [.row 3 .i64 3 (.slice (some ⟨ab, 0, none⟩) xs.length (ps.length + 1)) xs]) ∧ Aside0 (Below base w wr)) (fun vj _ => L.length - (intOf vj).toNat)
        case atStart => exact ⟨0, List.replicate (ps.length + 1) 0, Nat.zero_le _, rfl, HAT0, by rw [List.length_replicate]; exact H5, B5⟩
        case round =>
          clear HAT0 H5 B5
          obtain ⟨j, xs, hj, rfl, HAT, HP, HB⟩ := hrel
          by_cases hjl : j < L.length
          · obtain ⟨bk, ck, he, hcx⟩ := ps_at HP.out (.head _) hjl
            injection he with he _ hcc
            subst he hcc
            have hLr := HLR.out (L.getD j 0) (by rw [List.getD_eq_getElem?_getD, List.getElem?_eq_getElem hjl]; exact List.getElem_mem hjl)
            obtain ⟨z, hz⟩ : ∃ z : Nat, L.getD j 0 = (z : Int) := ⟨(L.getD j 0).toNat, by omega⟩
            obtain ⟨hz0, hst⟩ := at_step HTH.out.nd HAT.out hjl hz (by omega)
            rw [hz] at hcx hLr
            have hcz := HP.out.wat (.head _) (i := z) (by rw [HAT.out.1]; omega)
            have hfz := HP.out.wfr (.head _) (i := z) (by rw [HAT.out.1]; omega)
            rw [hz0] at hcz
            obtain ⟨hp6, hb6⟩ := HP.out.put (by simp) z ((j : Int) + 1)
            have H6 := Aside0.mk hp6
            have B6 := Aside0.mk (HB.out.trans hb6)
            have HST := Aside0.mk hst
            clear hz hz0 hst hp6 hb6
            have hb1 : 0 ≤ (j : Int) ∧ (j : Int) < (L.length : Int) := by omega
            have hb2 : (j : Int) < (L.length : Int) := by omega
            have hz1 : ¬ (z : Int) < 1 := by omega
            have hz2 : ¬ (ps.length : Int) < (z : Int) := by omega
            have hz3 : 0 ≤ (z : Int) ∧ (z : Int) < ((ps.length + 1 : Nat) : Int) := by omega
            have hz4 : 0 ≤ (z : Int) ∧ (z : Int) < (ps.length : Int) + 1 := by omega
            have hwz : IntKind.i64.wrap (z : Int) = (z : Int) := IntWalk.i64_in _ (by omega)
            have hwn : IntKind.u64.wrap (ps.length : Int) = (ps.length : Int) := IntWalk.u64_in _ (by omega)
            go_wp2_with fail
            go_roundw
            case rel => exact ⟨j + 1, xs.set z ((j : Int) + 1), by omega, by go_num, HST, H6, B6⟩
            case measure => simp [intOf]; omega
          · obtain rfl : j = L.length := by omega
            have hjn : ¬ (L.length : Int) < (L.length : Int) := by omega
            have HXL := Aside0.mk HAT.out.1
            have HXV := Aside0.mk (show ∀ y : Nat, y ≤ ps.length → xs.getD y 0 = if (y : Int) ∈ L then (L.idxOf (y : Int) : Int) + 1 else 0 by have := HAT.out.2; rwa [List.take_length] at this)
            have HID0 := Aside0.mk (show id ≠ 0 by omega)
            go_wp2_with fail
            go_loopw [12, 13] (fun vn vi wr => ∃ (q cn : Nat), q ≤ ps.length ∧ vi = .int .i64 ((q : Int) + 1) ∧ vn = .int .i64 cn ∧ Aside0 (cn = cntL L q) ∧ cn ≤ q ∧ Aside0 (PS wr base g l (.slice none 0 0) [] [(.slice A4 L.length c4, L)] [.row 3 .i64 3 (.slice (some ⟨ab, 0, none⟩) xs.length (ps.length + 1)) xs]) ∧ Aside0 (Below base w wr)) (fun _ vi _ => ps.length + 1 - (intOf vi).toNat)
            case atStart => exact ⟨0, 0, Nat.zero_le _, rfl, rfl, ⟨rfl⟩, Nat.le_refl _, HP, HB⟩
            case round =>
              clear HAT HP HB
              obtain ⟨q, cn, hq2, rfl, rfl, HCN, hcq, HP, HB⟩ := hrel
              by_cases hql : q < ps.length
              · have h2 : (q : Int) + 1 ≤ (ps.length : Int) := by omega
                obtain ⟨i, hi⟩ : ∃ i : Int, i = (q : Int) + 1 := ⟨_, rfl⟩
                have hi1 : 1 ≤ i ∧ i ≤ (ps.length : Int) := by omega
                have HCS := Aside0.mk (cnt_succ L q)
                rw [← HCN.out, ← hi] at HCS
                have HIQ := Aside0.mk hi
                rw [← hi] at h2 ⊢
                clear hi
                go_wp2_with fail
                go_loopw [14, 15] (fun vp vk wr => ∃ (p : Int) (k : Nat), 0 ≤ p ∧ p + k ≤ i ∧ vp = .int .i64 p ∧ vk = .int .i64 k ∧ Aside0 (Up l i id ↔ Up l p id) ∧ Aside0 (PS wr base g l (.slice none 0 0) [] [(.slice A4 L.length c4, L)] [.row 3 .i64 3 (.slice (some ⟨ab, 0, none⟩) xs.length (ps.length + 1)) xs]) ∧ Aside0 (Below base w wr)) (fun _ vk _ => 60 - (intOf vk).toNat)
                case atStart => exact ⟨i, 0, by omega, by omega, rfl, rfl, ⟨Iff.rfl⟩, HP, HB⟩
                case round =>
                  clear HP HB
                  obtain ⟨p, k, hp0, hpk, rfl, rfl, HUP, HP, HB⟩ := hrel
                  have hk60 : (k : Int) < 60 := by omega
                  have hwp : IntKind.u64.wrap p = p := IntWalk.u64_in _ (by omega)
                  have hwi : IntKind.u64.wrap i = i := IntWalk.u64_in _ (by omega)
                  by_cases hpp : p = 0 ∨ p = id
                  · have hcz := HP.out.wat (.head _) (i := i.toNat) (by rw [HXL.out]; omega)
                    have hxv := HXV.out i.toNat (by omega)
                    rw [show ((i.toNat : Nat) : Int) = i by omega] at hxv
                    have hz4 : 0 ≤ i ∧ i < (ps.length : Int) + 1 := by omega
                    by_cases hm : i ∈ L
                    · obtain rfl : p = id := by
                        rcases hpp with h | h
                        · have := HUP.out.1 ((HTH.out.mem i).1 hm)
                          rw [h] at this
                          exact absurd (HW.out.up_zero this) HID0.out
                        · exact h
                      clear hpp
                      have hp00 : (p == 0) = false := by rw [beq_eq_false_iff_ne]; exact HID0.out
                      have hpn0 : (p != 0) = true := by rw [bne_iff_ne]; exact HID0.out
                      rw [if_pos hm] at hxv
                      rw [hxv] at hcz
                      rw [if_pos hm] at HCS
                      have HC1 := Aside0.mk (show cn + 1 = cntL L (q + 1) from HCS.out.symm)
                      clear hxv HCS
                      by_cases hie : p = i
                      · subst hie
                        obtain ⟨a1, ha1⟩ : ∃ a : Int, a = (L.idxOf p : Int) + 1 := ⟨_, rfl⟩
                        have ha0 : 0 < a1 := by omega
                        rw [← ha1] at hcz
                        clear ha1
                        go_wp2_with fail
                        go_quiet (fail)
                        go_wp2_with fail
                        go_roundw
                        case rel => exact ⟨q + 1, cn + 1, by omega, by have := HIQ.out; go_num, by go_num, HC1, by omega, ⟨HP.out.below (pw_below_drewN (Below.refl _ _) _)⟩, ⟨HB.out.trans ((pw_below_drewN (Below.refl _ _) _).mono HP.out.size)⟩⟩
                        case measure => have := HIQ.out; simp [intOf]; omega
                      · replace hie : ¬ i = p := fun e => hie e.symm
                        have hieb : (i == p) = false := by rw [beq_eq_false_iff_ne]; exact hie
                        obtain ⟨hpm, hlt⟩ := HTH.out.bef i hm hie
                        have hpr := HLR.out _ hpm
                        obtain ⟨z2, hz2⟩ : ∃ z : Nat, par l i = (z : Int) := ⟨(par l i).toNat, by omega⟩
                        have hcz2 := HP.out.wat (.head _) (i := z2) (by rw [HXL.out]; omega)
                        have hxv2 := HXV.out z2 (by omega)
                        rw [← hz2, if_pos hpm] at hxv2
                        rw [hxv2] at hcz2
                        obtain ⟨a1, ha1⟩ : ∃ a : Int, a = (L.idxOf i : Int) + 1 := ⟨_, rfl⟩
                        obtain ⟨a2, ha2⟩ : ∃ a : Int, a = (L.idxOf (par l i) : Int) + 1 := ⟨_, rfl⟩
                        have ha0 : 0 < a1 := by omega
                        have ha3 : a1 < a2 := by omega
                        have hle : decide (a2 ≤ a1) = false := by rw [decide_eq_false_iff_not]; omega
                        rw [← ha1] at hcz
                        rw [← ha2] at hcz2
                        have hz24 : 0 ≤ (z2 : Int) ∧ (z2 : Int) < (ps.length : Int) + 1 := by omega
                        have hwz2 : IntKind.i64.wrap (z2 : Int) = (z2 : Int) := IntWalk.i64_in _ (by omega)
                        have HPA := Aside0.mk (fun n : Nat => ps_parent (HP.out.below (pw_below_drewN (Below.refl _ _) n)) (id := i) (show Tr.u64 i by unfold Tr.u64; omega))
                        rw [hz2] at HPA
                        clear ha1 ha2 hie hxv2 hpm hlt hpr hz2
                        go_wp2_with fail
                        go_quiet ((go_at_call 20; exact Calls.quiet_of_same (HPA.out _)))
                        go_wp2_with fail
                        go_roundw
                        case rel => exact ⟨q + 1, cn + 1, by omega, by have := HIQ.out; go_num, by go_num, HC1, by omega, ⟨HP.out.below (pw_below_drewN (Below.refl _ _) _)⟩, ⟨HB.out.trans ((pw_below_drewN (Below.refl _ _) _).mono HP.out.size)⟩⟩
                        case measure => have := HIQ.out; simp [intOf]; omega
                    · obtain rfl : p = 0 := by
                        rcases hpp with h | h
                        · exact h
                        · exact absurd ((HTH.out.mem i).2 (HUP.out.2 (by rw [h]; exact .refl id))) hm
                      have hp00 : ((0 : Int) == id) = false := by rw [beq_eq_false_iff_ne]; exact fun e => HID0.out e.symm
                      rw [if_neg hm] at hxv
                      rw [hxv] at hcz
                      rw [if_neg hm] at HCS
                      have HC1 := Aside0.mk (show cn = cntL L (q + 1) from HCS.out.symm)
                      clear hxv HCS hpp
                      go_wp2_with fail
                      go_roundw
                      case rel => exact ⟨q + 1, cn, by omega, by have := HIQ.out; go_num, rfl, HC1, by omega, HP, HB⟩
                      case measure => have := HIQ.out; simp [intOf]; omega
                  · have hp1 : ¬ p = 0 := fun h => hpp (.inl h)
                    have hp2 : ¬ p = id := fun h => hpp (.inr h)
                    have hp00 : (p == 0) = false := by rw [beq_eq_false_iff_ne]; exact hp1
                    have hpi : (p == id) = false := by rw [beq_eq_false_iff_ne]; exact hp2
                    have hpn0 : (p != 0) = true := by rw [bne_iff_ne]; exact hp1
                    have hpni : (p != id) = true := by rw [bne_iff_ne]; exact hp2
                    have hpl := HPL.out p (by omega) (by omega)
                    have HU2 := Aside0.mk (show Up l i id ↔ Up l (par l p) id from HUP.out.trans ⟨fun h => by cases h with | refl => exact absurd rfl hp2 | step _ h => exact h, fun h => .step ((HMB.out p).2 (by omega)) h⟩)
                    have HPU := Aside0.mk (show Tr.u64 p by unfold Tr.u64; omega)
                    obtain ⟨p2, hp2e⟩ : ∃ p2, p2 = par l p := ⟨_, rfl⟩
                    have HPE := Aside0.mk hp2e
                    rw [← hp2e] at HU2 hpl
                    have hwp2 : IntKind.i64.wrap p2 = p2 := IntWalk.i64_in _ (by omega)
                    clear hp2e hpp
                    go_wp2_with fail
                    try rw [hwp]
                    refine (ps_parent HP.out HPU.out).mono ?_
                    rw [← HPE.out]
                    rintro e w6 ⟨rfl, hw6⟩
                    obtain rfl : wr = w6 := hw6.symm
                    go_wp2_with fail
                    go_roundw
                    case rel => exact ⟨p2, k + 1, by omega, by omega, by first | rfl | (rw [hwp2]), by go_num, HU2, HP, HB⟩
                    case measure => simp [intOf]; omega
              · obtain rfl : q = ps.length := by omega
                have hqn : ¬ (ps.length : Int) + 1 ≤ (ps.length : Int) := by omega
                obtain rfl : cn = L.length := by rw [HCN.out]; exact cnt_all HTH.out.nd (fun y hy => HLR.out y hy)
                obtain ⟨bk, ck, he, hcx⟩ := ps_at HP.out (.head _) (j := L.length - 1) (by omega)
                injection he with he _ hcc
                subst he hcc
                rw [HTH.out.last] at hcx
                obtain ⟨m, hm⟩ : ∃ m, L.length = m + 1 := ⟨L.length - 1, by omega⟩
                rw [show L.length - 1 = m by omega] at hcx
                have hm1 : (L.length : Int) - 1 = (m : Int) := by omega
                have hm2 : 0 ≤ (m : Int) ∧ (m : Int) < (L.length : Int) := by omega
                clear hm
                go_wp2_with fail
                go_ret
                refine ⟨rfl, ?_⟩
                have h10 := HB.out
                rw [HBE.out] at h10
                exact h10
end Go.Proofs.Ytjnpbikalamchaa.Tr
