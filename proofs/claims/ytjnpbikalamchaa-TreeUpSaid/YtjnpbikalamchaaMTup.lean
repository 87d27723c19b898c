/- TreeUp, walked by hand: a thing is a child of its parent, once, behind its elder siblings; all things stand in the orders of those below none, each once. -/
import Derived.Test.YtjnpbikalamchaaMBuild
import Derived.BigQuiet
set_option linter.unusedVariables false
set_option linter.unusedSimpArgs false
namespace Go.Proofs.Ytjnpbikalamchaa.Tr
open Go.RowKit Go.Maps Go.Proofs.YtjnpbikalamchaaW.PrintWords Go.Proofs.YtjnpbikalamchaaW.PrintLast Go.Proofs.YtjnpbikalamchaaW.PrintMore
open Go.Proofs.Ytjnpbikalamchaa.Rf
attribute [local go_sem] max2_int min2_int
theorem sum_step (l : T) (ks : List Int) {j : Nat} (hj : j < ks.length) : ((ks.take (j + 1)).flatMap (ord l)).length = ((ks.take j).flatMap (ord l)).length + (ord l (ks.getD j 0)).length := by
  rw [List.getD_eq_getElem?_getD, List.getElem?_eq_getElem hj, List.take_succ_eq_append_getElem hj, List.flatMap_append]
  simp
theorem up_top {l : T} (h : WfT l) : ∀ (n : Nat) {y : Int}, pos l y ≤ n → y ∈ ids l → ∃ c ∈ kids l 0, Up l y c := by
  intro n
  induction n with
  | zero =>
    intro y hn hy
    by_cases hp : par l y = 0
    · exact ⟨y, h.kid_iff.2 ⟨hy, hp⟩, .refl y⟩
    · have := h.pos_par hy hp; omega
  | succ n ih =>
    intro y hn hy
    by_cases hp : par l y = 0
    · exact ⟨y, h.kid_iff.2 ⟨hy, hp⟩, .refl y⟩
    · have h1 := h.pos_par hy hp
      have h2 : par l y ∈ ids l := by rcases h.par_in hy with c | c; exact absurd c hp; exact c
      obtain ⟨c, hc, hu⟩ := ih (by omega) h2
      exact ⟨c, hc, .step hy hu⟩
theorem top_all {l : T} (h : WfT l) : ((kids l 0).flatMap (ord l)).length = l.length := by
  have e : ((kids l 0).flatMap (ord l)).length = (cutG l 0 0).length := by unfold cutG; rw [List.drop_zero, ((List.reverse_perm _).flatMap_right (ord l)).length_eq]
  rw [e, ← ids_len]
  apply Nat.le_antisymm
  · exact (h.cut_nodup 0 0).length_le_of_subset (fun y hy => h.cut_sub hy)
  · refine h.nodup.length_le_of_subset (fun y hy => ?_)
    rw [h.mem_cutG, List.drop_zero]
    exact up_top h _ (Nat.le_refl _) hy
theorem sum_le {l : T} (h : WfT l) (j : Nat) : (((kids l 0).take j).flatMap (ord l)).length ≤ l.length := by
  rw [← top_all h]
  have h2 : ((kids l 0).flatMap (ord l)).length = (((kids l 0).take j).flatMap (ord l)).length + (((kids l 0).drop j).flatMap (ord l)).length := by
    rw [← List.length_append, ← List.flatMap_append, List.take_append_drop]
  omega
theorem bT_sorted (ps : List Int) (k : Nat) (p : Int) : (kids (bT ps k) p).Pairwise (· < ·) := by
  unfold kids
  rw [List.pairwise_map]
  refine List.Pairwise.filter _ ?_
  unfold bT
  rw [List.pairwise_map]
  exact List.pairwise_lt_range.imp (fun {a b} h => by dsimp only; omega)
theorem sorted_at {ks : List Int} (h : ks.Pairwise (· < ·)) {j : Nat} (hj : j + 1 < ks.length) : ks.getD j 0 < ks.getD (j + 1) 0 := by
  rw [List.getD_eq_getElem?_getD, List.getD_eq_getElem?_getD, List.getElem?_eq_getElem hj, List.getElem?_eq_getElem (by omega)]
  exact List.pairwise_iff_getElem.1 h j (j + 1) (by omega) hj (by omega)
theorem count_one {x : Int} : ∀ {ks : List Int}, ks.Nodup → x ∈ ks → ks.count x = 1 := by
  intro ks
  induction ks with
  | nil => intro _ h; simp at h
  | cons a r ih =>
    intro hn hm
    rw [List.count_cons]
    by_cases c : a = x
    · have : x ∉ r := by rw [← c]; exact (List.nodup_cons.1 hn).1
      rw [List.count_eq_zero.2 this, c]; simp
    · have : x ∈ r := by rcases List.mem_cons.1 hm with h | h; exact absurd h.symm c; exact h
      rw [ih (List.nodup_cons.1 hn).2 this, if_neg (by simpa using c)]
theorem count_step (ks : List Int) (x : Int) {j : Nat} (hj : j < ks.length) : (ks.take (j + 1)).count x = (ks.take j).count x + (if ks.getD j 0 = x then 1 else 0) := by
  rw [List.getD_eq_getElem?_getD, List.getElem?_eq_getElem hj, List.take_succ_eq_append_getElem hj, List.count_append]
  by_cases c : ks[j] = x <;> simp [c]
set_option maxRecDepth 100000 in
set_option maxHeartbeats 16000000 in
theorem tup_walk (A : Option Addr) (c : Nat) (ps : List Int) (w : World) (hC : OrdC w A ps) (hwf : ∀ x ∈ ps, 0 ≤ x ∧ x ≤ 255) :
    Calls Try.prog 7 #[.slice A ps.length c] w fun e w' => e = .returned (.bool true) ∧ Below w.heap.size w w' := by
  have HC := Aside0.mk hC
  have HWF := Aside0.mk hwf
  obtain ⟨base, hbs⟩ : ∃ b, b = w.heap.size := ⟨_, rfl⟩
  have HBA := Aside0.mk (Nat.le_of_eq hbs)
  have HBE := Aside0.mk hbs
  clear hbs hC hwf
  by_cases hlen : 40 < ps.length
  · have h80 : (40 : Int) < (ps.length : Int) := by omega
    go_enter Try.func7, Try.ntmps7
    go_wp2_with fail
    refine (awake_calls w).mono ?_
    rintro e w1 ⟨rfl, hb1⟩
    have HB1 := Aside0.mk hb1
    clear hb1
    go_wp2_with fail
    go_ret
    exact ⟨rfl, HB1.out⟩
  · have h80 : ¬ (40 : Int) < (ps.length : Int) := by omega
    go_enter Try.func7, Try.ntmps7
    go_wp2_with fail
    refine (awake_calls w).mono ?_
    rintro e w1 ⟨rfl, hb1⟩
    have HB1 := Aside0.mk hb1
    clear hb1
    go_wp2_with fail
    refine (ps_new w1 base (Nat.le_trans HBA.out HB1.out.size)).mono ?_
    rintro e w2 ⟨g, rfl, hP2, hb2⟩
    have HP2 := Aside0.mk hP2
    have HB2 := Aside0.mk (show Below base w w2 from (HB1.out.mono HBA.out).trans hb2)
    clear hP2 hb2 HB1
    go_wp2_with fail
    go_loopw [5] (fun i wr => ∃ q : Nat, q ≤ ps.length ∧ i = .int .i64 q ∧ Aside0 (PS wr base g (bT ps q) (.slice none 0 0) [] [] []) ∧ Aside0 (Below base w wr)) (fun i _ => ps.length - (intOf i).toNat)
    case atStart => exact ⟨0, Nat.zero_le _, rfl, HP2, HB2⟩
    case round =>
      clear HP2 HB2
      obtain ⟨q, hq, rfl, hP, hB⟩ := hrel
      by_cases hlt : q < ps.length
      · obtain ⟨ad, hA, hcell⟩ := HC.out (by omega)
        subst hA
        have e0 := hcell q hlt
        have hblt := World.block_lt_of_cell? w _ e0
        replace e0 := (hB.out.cell (by rw [HBE.out]; exact hblt)).trans e0
        have hok := HWF.out (ps.getD q 0) (by rw [List.getD_eq_getElem?_getD, List.getElem?_eq_getElem hlt]; exact List.getElem_mem hlt)
        have hin1 : 0 ≤ (q : Int) ∧ (q : Int) < (ps.length : Int) := by omega
        have hin2 : (q : Int) < (ps.length : Int) := by omega
        have HBT := Aside0.mk (bT_add ps q)
        obtain ⟨x, hx⟩ : ∃ x, x = ps.getD q 0 := ⟨_, rfl⟩
        rw [← hx] at e0 hok HBT
        have hmr := mod_range x q
        have htm : Int.tmod x ((q : Int) + 1) = x % ((q : Int) + 1) := Int.tmod_eq_emod_of_nonneg hok.1
        obtain ⟨r, hr⟩ : ∃ r, r = x % ((q : Int) + 1) := ⟨_, rfl⟩
        rw [← hr] at hmr htm HBT
        have HP := hP
        clear hcell hblt hx hr hP
        go_wp2_with fail
        refine (ps_add HP.out (id := (q : Int) + 1) (p := r) (by unfold Tr.u64; omega) (by unfold Tr.u64; omega) (by rw [bT_len]; omega)).mono ?_
        rw [HBT.out.1, HBT.out.2]
        rintro e w3 ⟨rfl, hP3, hb3⟩
        have HP3 := Aside0.mk hP3
        have HB3 := Aside0.mk (hB.out.trans hb3)
        clear hP3 hb3
        go_wp2_with fail
        go_roundw
        case rel => exact ⟨q + 1, by omega, by go_num, HP3, HB3⟩
        case measure => simp [intOf]; omega
      · obtain rfl : q = ps.length := by omega
        have hnq : ¬ (ps.length : Int) < (ps.length : Int) := by omega
        have hps : ps.length ≤ 40 := by omega
        have HLN := Aside0.mk (bT_len ps ps.length)
        have HSO := Aside0.mk (bT_sorted ps ps.length)
        have HMB := Aside0.mk (fun y : Int => mem_bT (ps := ps) (k := ps.length) (y := y))
        have HPL := Aside0.mk (fun (y : Int) (h1 : 1 ≤ y) (h2 : y ≤ (ps.length : Int)) => bT_par_lt (ps := ps) (k := ps.length) (by omega) h1 h2)
        obtain ⟨l, hl⟩ : ∃ l, l = bT ps ps.length := ⟨_, rfl⟩
        rw [← hl] at hP HLN HSO HMB HPL
        clear hl
        have HW := Aside0.mk hP.out.wft
        have HL60 := Aside0.mk (show l.length ≤ 40 by have := HLN.out; omega)
        have HLI := Aside0.mk (show (l.length : Int) = (ps.length : Int) by have := HLN.out; omega)
        have HP1 := hP
        have HB1 := hB
        clear hP hB
        go_wp2_with fail
        go_loopw [6] (fun vi wr => ∃ i : Nat, 1 ≤ i ∧ i ≤ ps.length + 1 ∧ vi = .int .i64 i ∧ Aside0 (PS wr base g l (.slice none 0 0) [] [] []) ∧ Aside0 (Below base w wr)) (fun vi _ => ps.length + 1 - (intOf vi).toNat)
        case atStart => exact ⟨1, Nat.le_refl _, by omega, rfl, HP1, HB1⟩
        case round =>
          clear HP1 HB1
          obtain ⟨i, hi1, hi2, rfl, HP, HB⟩ := hrel
          by_cases hil : i ≤ ps.length
          · have h2 : (i : Int) ≤ (ps.length : Int) := by omega
            have HIU := Aside0.mk (show Tr.u64 (i : Int) by unfold Tr.u64; omega)
            have hwi : IntKind.u64.wrap (i : Int) = (i : Int) := IntWalk.u64_in _ (by omega)
            have hpl := HPL.out (i : Int) (by omega) (by omega)
            have him := (HMB.out (i : Int)).2 (by omega)
            go_wp2_with fail
            try rw [hwi]
            refine (ps_parent HP.out HIU.out).mono ?_
            obtain ⟨p, hp⟩ : ∃ p, p = par l (i : Int) := ⟨_, rfl⟩
            have HKI := Aside0.mk (show (i : Int) ∈ kids l p from HW.out.kid_iff.2 ⟨him, hp.symm⟩)
            rw [← hp] at hpl ⊢
            clear hp him
            rintro e w3 ⟨rfl, hw3⟩
            obtain rfl : wr = w3 := hw3.symm
            have HPU := Aside0.mk (show Tr.u64 p by unfold Tr.u64; omega)
            clear hpl
            go_wp2_with fail
            obtain ⟨ks, hks⟩ : ∃ ks, ks = kids l p := ⟨_, rfl⟩
            have hk60 : ks.length ≤ 40 := by rw [hks]; exact Nat.le_trans (kids_len _ _) HL60.out
            have HKN := Aside0.mk (show ks.count (i : Int) = 1 by rw [hks]; exact count_one (HW.out.kids_nodup p) HKI.out)
            have HSK := Aside0.mk (show ks.Pairwise (· < ·) by rw [hks]; exact HSO.out p)
            have HKS := Aside0.mk hks
            clear hks
            refine (ps_children HP.out HPU.out (by have := HL60.out; omega)).mono ?_
            rw [← HKS.out]
            rintro e w4 ⟨u4, rfl, hP4, hb4⟩
            obtain ⟨A4, c4, rfl, _, _⟩ := hP4.row List.mem_cons_self
            have H4 := Aside0.mk hP4
            have B4 := Aside0.mk (HB.out.trans hb4)
            clear hP4 hb4 HP HB
            go_wp2_with fail
            go_loopw [8, 9] (fun vn vk wr => ∃ (j : Nat) (cn : Nat), j ≤ ks.length ∧ vk = .int .i64 j ∧ vn = .int .i64 cn ∧ Aside0 (cn = (ks.take j).count (i : Int)) ∧ cn ≤ j ∧ Aside0 (PS wr base g l (.slice none 0 0) [] [(.slice A4 ks.length c4, ks)] []) ∧ Aside0 (Below base w wr)) (fun _ vk _ => ks.length - (intOf vk).toNat)
            case atStart => exact ⟨0, 0, Nat.zero_le _, rfl, rfl, ⟨rfl⟩, Nat.le_refl _, H4, B4⟩
            case round =>
              clear H4 B4
              obtain ⟨j, cn, hj, rfl, rfl, HCN, hcj, HP, HB⟩ := hrel
              by_cases hjl : j < ks.length
              · have hcs := count_step ks (i : Int) hjl
                rw [← HCN.out] at hcs
                obtain ⟨bk, ck, he, hcx⟩ := ps_at HP.out (.head _) hjl
                injection he with he _ hcc
                subst he hcc
                have hb1 : 0 ≤ (j : Int) ∧ (j : Int) < (ks.length : Int) := by omega
                have hb2 : (j : Int) < (ks.length : Int) := by omega
                obtain ⟨x, hx⟩ : ∃ x, x = ks.getD j 0 := ⟨_, rfl⟩
                rw [← hx] at hcx hcs
                by_cases hj0 : j = 0
                · subst hj0
                  clear hx
                  by_cases hxi : x = (i : Int)
                  · have hxb : (x == (i : Int)) = true := by rw [beq_iff_eq]; exact hxi
                    have HE := Aside0.mk (show cn + 1 = (ks.take (0 + 1)).count (i : Int) by rw [hcs, if_pos hxi])
                    clear hcs
                    go_wp2_with fail
                    go_quiet (fail)
                    go_wp2_with fail
                    go_roundw
                    case rel => exact ⟨1, cn + 1, by omega, by go_num, by go_num, HE, by omega, ⟨HP.out.below (pw_below_drewN (Below.refl _ _) _)⟩, ⟨HB.out.trans ((pw_below_drewN (Below.refl _ _) _).mono HP.out.size)⟩⟩
                    case measure => simp [intOf]; omega
                  · have hxb : (x == (i : Int)) = false := by rw [beq_eq_false_iff_ne]; exact hxi
                    have HE := Aside0.mk (show cn = (ks.take (0 + 1)).count (i : Int) by rw [hcs, if_neg hxi, Nat.add_zero])
                    clear hcs
                    go_wp2_with fail
                    go_quiet (fail)
                    go_wp2_with fail
                    go_roundw
                    case rel => exact ⟨1, cn, by omega, by go_num, by go_num, HE, by omega, ⟨HP.out.below (pw_below_drewN (Below.refl _ _) _)⟩, ⟨HB.out.trans ((pw_below_drewN (Below.refl _ _) _).mono HP.out.size)⟩⟩
                    case measure => simp [intOf]; omega
                · obtain ⟨r, rfl⟩ : ∃ r, j = r + 1 := ⟨j - 1, by omega⟩
                  have hso := sorted_at HSK.out hjl
                  rw [← hx] at hso
                  obtain ⟨bk2, ck2, he, hcy⟩ := ps_at HP.out (.head _) (j := r) (by omega)
                  injection he with he _ hcc
                  injection he with he
                  injection he with he
                  subst he hcc
                  obtain ⟨y, hy⟩ : ∃ y, y = ks.getD r 0 := ⟨_, rfl⟩
                  rw [← hy] at hcy hso
                  clear hx hy
                  have hj1 : ((r + 1 : Nat) : Int) - 1 = (r : Int) := by omega
                  have hj2 : 0 < ((r + 1 : Nat) : Int) := by omega
                  have hb3 : 0 ≤ (r : Int) ∧ (r : Int) < (ks.length : Int) := by omega
                  have hle : decide (x ≤ y) = false := by rw [decide_eq_false_iff_not]; omega
                  by_cases hxi : x = (i : Int)
                  · have hxb : (x == (i : Int)) = true := by rw [beq_iff_eq]; exact hxi
                    have HE := Aside0.mk (show cn + 1 = (ks.take (r + 1 + 1)).count (i : Int) by rw [hcs, if_pos hxi])
                    clear hcs
                    go_wp2_with fail
                    go_quiet (fail)
                    go_wp2_with fail
                    go_roundw
                    case rel => exact ⟨r + 1 + 1, cn + 1, by omega, by go_num, by go_num, HE, by omega, ⟨HP.out.below (pw_below_drewN (Below.refl _ _) _)⟩, ⟨HB.out.trans ((pw_below_drewN (Below.refl _ _) _).mono HP.out.size)⟩⟩
                    case measure => simp [intOf]; omega
                  · have hxb : (x == (i : Int)) = false := by rw [beq_eq_false_iff_ne]; exact hxi
                    have HE := Aside0.mk (show cn = (ks.take (r + 1 + 1)).count (i : Int) by rw [hcs, if_neg hxi, Nat.add_zero])
                    clear hcs
                    go_wp2_with fail
                    go_quiet (fail)
                    go_wp2_with fail
                    go_roundw
                    case rel => exact ⟨r + 1 + 1, cn, by omega, by go_num, by go_num, HE, by omega, ⟨HP.out.below (pw_below_drewN (Below.refl _ _) _)⟩, ⟨HB.out.trans ((pw_below_drewN (Below.refl _ _) _).mono HP.out.size)⟩⟩
                    case measure => simp [intOf]; omega
              · obtain rfl : j = ks.length := by omega
                have hjn : ¬ (ks.length : Int) < (ks.length : Int) := by omega
                obtain rfl : cn = 1 := by rw [HCN.out, List.take_length]; exact HKN.out
                have HP4 := Aside0.mk (HP.out.sub (rows' := []) (fun q hq => by simp at hq))
                go_wp2_with fail
                go_roundw
                case rel => exact ⟨i + 1, by omega, by omega, by go_num, HP4, HB⟩
                case measure => simp [intOf]; omega
          · obtain rfl : i = ps.length + 1 := by omega
            have h2 : ¬ ((ps.length + 1 : Nat) : Int) ≤ (ps.length : Int) := by omega
            have HU0 := Aside0.mk (show Tr.u64 0 by unfold Tr.u64; omega)
            obtain ⟨ks, hks⟩ : ∃ ks, ks = kids l 0 := ⟨_, rfl⟩
            have hk60 : ks.length ≤ 40 := by rw [hks]; exact Nat.le_trans (kids_len _ _) HL60.out
            have HKU := Aside0.mk (show ∀ x ∈ ks, Tr.u64 x by rw [hks]; intro x hx; exact HW.out.u _ (kid_in hx))
            have HSL := Aside0.mk (show ∀ j, ((ks.take j).flatMap (ord l)).length ≤ 40 by rw [hks]; intro j; exact Nat.le_trans (sum_le HW.out j) HL60.out)
            have HTA := Aside0.mk (show (ks.flatMap (ord l)).length = ps.length by rw [hks, top_all HW.out]; exact HLN.out)
            have HKS := Aside0.mk hks
            clear hks
            go_wp2_with fail
            refine (ps_children HP.out HU0.out (by have := HL60.out; omega)).mono ?_
            rw [← HKS.out]
            rintro e w4 ⟨u4, rfl, hP4, hb4⟩
            obtain ⟨A4, c4, rfl, _, _⟩ := hP4.row List.mem_cons_self
            have H4 := Aside0.mk hP4
            have B4 := Aside0.mk (HB.out.trans hb4)
            clear hP4 hb4 HP HB
            go_wp2_with fail
            go_loopw [11, 12] (fun vs vi wr => ∃ (j : Nat) (sm : Nat), j ≤ ks.length ∧ vi = .int .i64 j ∧ vs = .int .i64 sm ∧ Aside0 (sm = ((ks.take j).flatMap (ord l)).length) ∧ sm ≤ 40 ∧ Aside0 (PS wr base g l (.slice none 0 0) [] [(.slice A4 ks.length c4, ks)] []) ∧ Aside0 (Below base w wr)) (fun _ vi _ => ks.length - (intOf vi).toNat)
            case atStart => exact ⟨0, 0, Nat.zero_le _, rfl, rfl, ⟨rfl⟩, Nat.zero_le _, H4, B4⟩
            case round =>
              clear H4 B4
              obtain ⟨j, sm, hj, rfl, rfl, HSM, hsm, HP, HB⟩ := hrel
              by_cases hjl : j < ks.length
              · have hss := sum_step l ks hjl
                have hsn := HSL.out (j + 1)
                rw [← HSM.out] at hss
                obtain ⟨bk, ck, he, hcx⟩ := ps_at HP.out (.head _) hjl
                injection he with he _ hcc
                subst he hcc
                have hb1 : 0 ≤ (j : Int) ∧ (j : Int) < (ks.length : Int) := by omega
                have hb2 : (j : Int) < (ks.length : Int) := by omega
                obtain ⟨x, hx⟩ : ∃ x, x = ks.getD j 0 := ⟨_, rfl⟩
                have HXU := Aside0.mk (HKU.out x (by rw [hx, List.getD_eq_getElem?_getD, List.getElem?_eq_getElem hjl]; exact List.getElem_mem hjl))
                rw [← hx] at hcx hss
                clear hx
                obtain ⟨os, hos⟩ : ∃ os, os = ord l x := ⟨_, rfl⟩
                rw [← hos] at hss
                have HOS := Aside0.mk hos
                have HSS := Aside0.mk hss
                have hol : sm + os.length ≤ 40 := by omega
                clear hos hss hsn
                go_wp2_with fail
                refine (ps_order HP.out HXU.out (by have := HL60.out; omega)).mono ?_
                rw [← HOS.out]
                rintro e w6 ⟨u6, rfl, hP6, hb6⟩
                obtain ⟨A6, c6, rfl, _, _⟩ := hP6.row List.mem_cons_self
                have H6 := Aside0.mk (hP6.sub (rows' := [(.slice (some ⟨bk, 0, none⟩) ks.length c4, ks)]) (fun q hq => List.mem_cons_of_mem _ hq))
                have B6 := Aside0.mk (HB.out.trans hb6)
                clear hP6 hb6
                go_wp2_with fail
                go_roundw
                case rel => exact ⟨j + 1, sm + os.length, by omega, by go_num, by go_num, ⟨HSS.out.symm⟩, hol, H6, B6⟩
                case measure => simp [intOf]; omega
              · obtain rfl : j = ks.length := by omega
                have hjn : ¬ (ks.length : Int) < (ks.length : Int) := by omega
                obtain rfl : sm = ps.length := by rw [HSM.out, List.take_length]; exact HTA.out
                go_wp2_with fail
                refine (ps_len HP.out (by have := HL60.out; omega)).mono ?_
                rw [HLI.out]
                rintro e w7 ⟨rfl, hw7⟩
                obtain rfl : wr = w7 := hw7.symm
                go_wp2_with fail
                go_ret
                refine ⟨rfl, ?_⟩
                have h10 := HB.out
                rw [HBE.out] at h10
                exact h10
end Go.Proofs.Ytjnpbikalamchaa.Tr
