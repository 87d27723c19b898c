/- TreeCut, walked by hand: cut to so many a thing has its eldest children, with all below them. -/
import Derived.Test.YtjnpbikalamchaaMBuild
set_option linter.unusedVariables false
set_option linter.unusedSimpArgs false
namespace Go.Proofs.Ytjnpbikalamchaa.Tr
open Go.RowKit Go.Maps Go.Proofs.YtjnpbikalamchaaW.PrintWords Go.Proofs.YtjnpbikalamchaaW.PrintLast Go.Proofs.YtjnpbikalamchaaW.PrintMore
open Go.Proofs.Ytjnpbikalamchaa.Rf
attribute [local go_sem] max2_int min2_int
theorem stay_step (l : T) (ks : List Int) {j : Nat} (hj : j < ks.length) : (ks.take (j + 1)).flatMap (ord l) = (ks.take j).flatMap (ord l) ++ ord l (ks.getD j 0) := by
  rw [List.getD_eq_getElem?_getD, List.getElem?_eq_getElem hj, List.take_succ_eq_append_getElem hj, List.flatMap_append]
  simp
theorem stay_len {l : T} (hw : WfT l) (hl : l.length ≤ 60) (id : Int) (j : Nat) : (((kids l id).take j).flatMap (ord l)).length ≤ 60 := by
  have h1 := cutG_len hw hl id 0
  unfold cutG at h1
  rw [List.drop_zero, ((List.reverse_perm _).flatMap_right (ord l)).length_eq] at h1
  have h2 : ((kids l id).flatMap (ord l)).length = (((kids l id).take j).flatMap (ord l)).length + (((kids l id).drop j).flatMap (ord l)).length := by
    rw [← List.length_append, ← List.flatMap_append, List.take_append_drop]
  omega
/-- What is cut, and what stays. -/
structure CutTh (l : T) (id : Int) (nn : Int) (m : Nat) : Prop where
  gone : cutA l id nn = cutG l id m
  len : (cutT l id nn).length + (cutG l id m).length = l.length
  kids : kids (cutT l id nn) id = (kids l id).take m
  ord : ∀ j, j < m → ord (cutT l id nn) ((Tr.kids l id).getD j 0) = ord l ((Tr.kids l id).getD j 0)
theorem cutTh {l : T} (h : WfT l) {id nn : Int} (hin : inT l id) (h0 : 0 ≤ nn) {m : Nat} (hm : (nn = m ∧ m ≤ (kids l id).length) ∨ (m = (kids l id).length ∧ (m : Int) ≤ nn)) : CutTh l id nn m := by
  have e : cutG l id nn.toNat = cutG l id m := by
    rcases hm with ⟨e, _⟩ | ⟨e, h1⟩
    · rw [show nn.toNat = m by omega]
    · rw [e, cutG_all]; unfold cutG; rw [List.drop_eq_nil_of_le (by omega)]; rfl
  have hA : cutA l id nn = cutG l id m := by unfold cutA; rw [if_pos ⟨hin, h0⟩, e]
  have hT : cutT l id nn = without l (cutG l id m) := by unfold cutT; rw [hA]
  refine ⟨hA, ?_, ?_, ?_⟩
  · rw [hT]; exact without_len (h.cut_nodup id m) (fun x hx => h.cut_sub hx) h.nodup
  · rw [hT]; exact h.kids_cut id m
  · intro j hj
    have hml : m ≤ (kids l id).length := by rcases hm with c | c <;> omega
    rw [hT]
    refine h.ord_cut ?_
    rw [List.getD_eq_getElem?_getD, List.getElem?_eq_getElem (by omega)]
    exact List.mem_take_iff_getElem.2 ⟨j, by omega, rfl⟩
theorem same_n {W : World} {A A1 : Option Addr} {c c1 n : Nat} {xs : List Int} (h : Kd.C (Kd.int .u64) W A n xs) (hc : n ≤ c) (h1 : Kd.C (Kd.int .u64) W A1 n xs) (hc1 : n ≤ c1) (hl : n ≤ 1000) :
    Calls Try.prog 13 #[.slice A n c, .slice A1 n c1] W fun e w' => e = .returned (.bool true) ∧ Below W.heap.size W w' := by
  have hn : xs.length = n := h.1
  subst hn
  refine (same_c h hc h1 hc1 hl).mono ?_
  rw [decide_eq_true rfl]
  exact fun _ _ h => h
section
variable {w : World} {base g : Nat} {lt : T} {v : Value} {ld : T} {rows : List (Value × List Int)} {bl : List Res}
theorem q_C (h : PS w base g lt v ld rows bl) {A : Option Addr} {n c : Nat} {xs : List Int} {j : Nat} (hq : (.slice A n c, xs) ∈ rows ∨ .row j .u64 27 (.slice A n c) xs ∈ bl) : Kd.C (Kd.int .u64) w A n xs ∧ n ≤ c := by
  rcases hq with hq | hq
  · obtain ⟨A1, c1, e, h1, h2⟩ := h.row hq
    injection e with e1 e2 e3
    subst e1 e2 e3
    exact ⟨h1, h2⟩
  · obtain ⟨A1, c1, e, h1, h2⟩ := h.wrow hq
    injection e with e1 e2 e3
    subst e1 e2 e3
    exact ⟨h1, h2⟩
theorem q_same (h : PS w base g lt v ld rows bl) {A A1 : Option Addr} {n c n1 c1 : Nat} {xs ys : List Int} {j j1 : Nat} (hq : (.slice A n c, xs) ∈ rows ∨ .row j .u64 27 (.slice A n c) xs ∈ bl) (hq1 : (.slice A1 n1 c1, ys) ∈ rows ∨ .row j1 .u64 27 (.slice A1 n1 c1) ys ∈ bl) (he : xs = ys) (hl : n ≤ 1000) :
    Calls Try.prog 13 #[.slice A n c, .slice A1 n1 c1] w fun e w' => e = .returned (.bool true) ∧ Below w.heap.size w w' := by
  subst he
  obtain ⟨a1, a2⟩ := q_C h hq
  obtain ⟨b1, b2⟩ := q_C h hq1
  obtain rfl : n = n1 := a1.1.symm.trans b1.1
  exact same_n a1 a2 b1 b2 hl
theorem q_children (h : PS w base g lt v ld rows bl) {id : Int} (hu : Tr.u64 id) (hl : lt.length ≤ 60) :
    Calls Try.prog 22 #[.pointer (some ⟨g, 0, none⟩), .int .u64 id] w fun e w' => ∃ A c, e = .returned (.slice A (kids lt id).length c) ∧ (kids lt id).length ≤ c ∧ Kd.C (Kd.int .u64) w' A (kids lt id).length (kids lt id) ∧ Below w.heap.size w w' := by
  obtain ⟨own, h⟩ := h
  refine (tr_children h.t hu hl).mono ?_
  rintro e w1 ⟨u, rfl, hR, hB⟩
  obtain ⟨A, c, rfl⟩ := Kd.R_slice hR
  exact ⟨A, c, rfl, (Kd.R_reads' hR).2.1, (Kd.R_reads' hR).2.2, hB⟩
theorem q_len (h : PS w base g lt v ld rows bl) (hl : lt.length ≤ 1000) :
    Calls Try.prog 17 #[.pointer (some ⟨g, 0, none⟩)] w fun e w' => e = .returned (.int .i64 (lt.length : Int)) ∧ Below w.heap.size w w' :=
  (ps_len h hl).mono (fun e w' ⟨he, hw⟩ => ⟨he, hw ▸ Below.refl _ _⟩)
theorem q_take (h : PS w base g lt v ld rows bl) {A : Option Addr} {c : Nat} {xs : List Int} (hq : (.slice A xs.length c, xs) ∈ rows) {m : Nat} (hm : m ≤ xs.length) : Kd.C (Kd.int .u64) w A m (xs.take m) := by
  obtain ⟨own, h⟩ := h
  have := Kd.C_take (Kd.R_reads' (h.r _ hq)).2.2 hm
  rwa [List.length_take, Nat.min_eq_left hm] at this
end
theorem ps_cutrow {w : World} {base g : Nat} {lt : T} {v : Value} {ld : T} {rows : List (Value × List Int)} {bl : List Res} (h : PS w base g lt v ld rows bl) {A : Option Addr} {c : Nat} {xs : List Int} (hq : (.slice A xs.length c, xs) ∈ rows) {m : Nat} (hm : m ≤ xs.length) :
    ∀ W : World, (Instr.slice 33 (.slice A xs.length c) none (some (.int .i64 (m : Int))) none).run Try.prog W = .ok (.slice A m c) W := by
  obtain ⟨own, h⟩ := h
  exact (cut_last Try.underlying33 (h.r _ hq) rfl m hm info27).1
set_option maxRecDepth 100000 in
set_option maxHeartbeats 16000000 in
theorem tcut_walk (A : Option Addr) (c : Nat) (ps : List Int) (w : World) (ki ni : Int) (hC : OrdC w A ps) (hwf : ∀ x ∈ ps, 0 ≤ x ∧ x ≤ 255) (hk : 0 ≤ ki ∧ ki ≤ 255) (hn : 0 ≤ ni ∧ ni ≤ 255) :
    Calls Try.prog 6 #[.slice A ps.length c, .int .u8 ki, .int .u8 ni] w fun e w' => e = .returned (.bool true) ∧ Below w.heap.size w w' := by
  have HC := Aside0.mk hC
  have HWF := Aside0.mk hwf
  obtain ⟨base, hbs⟩ : ∃ b, b = w.heap.size := ⟨_, rfl⟩
  have HBA := Aside0.mk (Nat.le_of_eq hbs)
  have HBE := Aside0.mk hbs
  clear hbs hC hwf
  by_cases hlen : 40 < ps.length
  · have h80 : (40 : Int) < (ps.length : Int) := by omega
    go_enter Try.func6, Try.ntmps6
    go_wp2_with fail
    refine (awake_calls w).mono ?_
    rintro e w1 ⟨rfl, hb1⟩
    have HB1 := Aside0.mk hb1
    clear hb1
    go_wp2_with fail
    go_ret
    exact ⟨rfl, HB1.out⟩
  · have h80 : ¬ (40 : Int) < (ps.length : Int) := by omega
    by_cases hnil : ps.length = 0
    · have hn0 : ((ps.length : Int) == 0) = true := by rw [hnil]; rfl
      go_enter Try.func6, Try.ntmps6
      go_wp2_with fail
      refine (awake_calls w).mono ?_
      rintro e w1 ⟨rfl, hb1⟩
      have HB1 := Aside0.mk hb1
      clear hb1
      go_wp2_with fail
      go_ret
      exact ⟨rfl, HB1.out⟩
    have hn0 : ((ps.length : Int) == 0) = false := by rw [beq_eq_false_iff_ne]; omega
    have hnn : ¬ (ps.length : Int) = 0 := by omega
    go_enter Try.func6, Try.ntmps6
    go_wp2_with fail
    refine (awake_calls w).mono ?_
    rintro e w1 ⟨rfl, hb1⟩
    have HB1 := Aside0.mk hb1
    clear hb1
    go_wp2_with fail
    refine (ps_new w1 base (Nat.le_trans HBA.out HB1.out.size)).mono ?_
    rintro e w2 ⟨g, rfl, hP2, hb2⟩
    have HP2 := Aside0.mk hP2
    have HB2 := Aside0.mk (show Below base w w2 from (HB1.out.mono HBA.out).trans hb2)
    clear hP2 hb2 HB1
    go_wp2_with fail
    go_loopw [9] (fun i wr => ∃ q : Nat, q ≤ ps.length ∧ i = .int .i64 q ∧ Aside0 (PS wr base g (bT ps q) (.slice none 0 0) [] [] []) ∧ Aside0 (Below base w wr)) (fun i _ => ps.length - (intOf i).toNat)
    case atStart => exact ⟨0, Nat.zero_le _, rfl, HP2, HB2⟩
    case round =>
      clear HP2 HB2
      obtain ⟨q, hq, rfl, hP, hB⟩ := hrel
      by_cases hlt : q < ps.length
      · obtain ⟨ad, hA, hcell⟩ := HC.out (by omega)
        subst hA
        have e0 := hcell q hlt
        have hblt := World.block_lt_of_cell? w _ e0
        replace e0 := (hB.out.cell (by rw [HBE.out]; exact hblt)).trans e0
        have hok := HWF.out (ps.getD q 0) (by rw [List.getD_eq_getElem?_getD, List.getElem?_eq_getElem hlt]; exact List.getElem_mem hlt)
        have hin1 : 0 ≤ (q : Int) ∧ (q : Int) < (ps.length : Int) := by omega
        have hin2 : (q : Int) < (ps.length : Int) := by omega
        have HBT := Aside0.mk (bT_add ps q)
        obtain ⟨x, hx⟩ : ∃ x, x = ps.getD q 0 := ⟨_, rfl⟩
        rw [← hx] at e0 hok HBT
        have hmr := mod_range x q
        have htm : Int.tmod x ((q : Int) + 1) = x % ((q : Int) + 1) := Int.tmod_eq_emod_of_nonneg hok.1
        obtain ⟨r, hr⟩ : ∃ r, r = x % ((q : Int) + 1) := ⟨_, rfl⟩
        rw [← hr] at hmr htm HBT
        have HP := hP
        clear hcell hblt hx hr hP
        go_wp2_with fail
        refine (ps_add HP.out (id := (q : Int) + 1) (p := r) (by unfold Tr.u64; omega) (by unfold Tr.u64; omega) (by rw [bT_len]; omega)).mono ?_
        rw [HBT.out.1, HBT.out.2]
        rintro e w3 ⟨rfl, hP3, hb3⟩
        have HP3 := Aside0.mk hP3
        have HB3 := Aside0.mk (hB.out.trans hb3)
        clear hP3 hb3
        go_wp2_with fail
        go_roundw
        case rel => exact ⟨q + 1, by omega, by go_num, HP3, HB3⟩
        case measure => simp [intOf]; omega
      · obtain rfl : q = ps.length := by omega
        have hnq : ¬ (ps.length : Int) < (ps.length : Int) := by omega
        have hps : 1 ≤ ps.length ∧ ps.length ≤ 40 := by omega
        have hmk := Int.emod_nonneg ki (show (ps.length : Int) + 1 ≠ 0 by omega)
        have hmk2 := Int.emod_lt_of_pos ki (show (0 : Int) < (ps.length : Int) + 1 by omega)
        obtain ⟨id, hid⟩ : ∃ id, id = ki % ((ps.length : Int) + 1) := ⟨_, rfl⟩
        have HCV := Aside0.mk (show IntKind.u64.wrap (ki % ((ps.length : Int) + 1)) = id by rw [IntWalk.u64_in _ (by omega), hid])
        have hid1 : 0 ≤ id ∧ id ≤ (ps.length : Int) := by omega
        clear hid hmk hmk2
        have HIN := Aside0.mk (show inT (bT ps ps.length) id from by unfold inT; rw [mem_bT]; omega)
        have HLN := Aside0.mk (bT_len ps ps.length)
        obtain ⟨l, hl⟩ : ∃ l, l = bT ps ps.length := ⟨_, rfl⟩
        rw [← hl] at hP HIN HLN
        clear hl
        have HW := Aside0.mk hP.out.wft
        have HIDU := Aside0.mk (show Tr.u64 id by unfold Tr.u64; omega)
        have HL60 := Aside0.mk (show l.length ≤ 40 by have := HLN.out; omega)
        have HLI := Aside0.mk (show (l.length : Int) = (ps.length : Int) by have := HLN.out; omega)
        obtain ⟨ks, hks⟩ : ∃ ks, ks = kids l id := ⟨_, rfl⟩
        have hk60 : ks.length ≤ 40 := by rw [hks]; exact Nat.le_trans (kids_len _ _) HL60.out
        have HKS := Aside0.mk hks
        clear hks
        have hn6 := Int.emod_nonneg ni (show (6 : Int) ≠ 0 by omega)
        have hn62 := Int.emod_lt_of_pos ni (show (0 : Int) < 6 by omega)
        have HNT := Aside0.mk (show Int.tmod ni 6 = ni % 6 from Int.tmod_eq_emod_of_nonneg hn.1)
        have hn0 : 0 ≤ ni := hn.1
        obtain ⟨nn, hnn⟩ : ∃ nn, nn = ni % 6 := ⟨_, rfl⟩
        rw [← hnn] at HNT hn6 hn62
        clear hnn
        go_wp2_with fail
        rw [HCV.out]
        refine (ps_children hP.out HIDU.out (by have := HL60.out; omega)).mono ?_
        rw [← HKS.out]
        rintro e w4 ⟨u4, rfl, hP4, hb4⟩
        obtain ⟨A4, c4, rfl, _, _⟩ := hP4.row List.mem_cons_self
        have H4 := Aside0.mk hP4
        have B4 := Aside0.mk (hB.out.trans hb4)
        clear hP4 hb4 hP hB
        have htm := HNT.out
        obtain ⟨m, hm⟩ : ∃ m : Nat, (nn = m ∧ m ≤ ks.length) ∨ (m = ks.length ∧ (m : Int) ≤ nn) := by
          by_cases h : nn ≤ (ks.length : Int)
          · exact ⟨nn.toNat, .inl ⟨by omega, by omega⟩⟩
          · exact ⟨ks.length, .inr ⟨rfl, by omega⟩⟩
        have HM := Aside0.mk hm
        have hmk : m ≤ ks.length := by rcases hm with h | h <;> omega
        go_upto_region 13 with (fail)
        go_cut [12] (fun s12 wx => s12 = .int .i64 m ∧ wx = w4)
        case first =>
          clear hm hmk
          go_wp2_with fail
          all_goals (go_meet; refine ⟨?_, rfl⟩; have := HM.out; congr 1; first | omega | (simp; omega))
        case rest =>
          obtain ⟨rfl, hwc⟩ := hcut
          obtain rfl : w4 = wc := hwc.symm
          clear hm
          have HTH := Aside0.mk (cutTh HW.out (id := id) (nn := nn) (m := m) HIN.out hn6 (by rw [← HKS.out]; exact HM.out))
          have HP3 := Aside0.mk (H4.out.nilrow 3 .u64 27 (Nat.le_refl _))
          go_wp2_with fail
          go_loopw [13, 14] (fun vw vi wr => ∃ (q : Nat) (A : Option Addr) (c : Nat) (xs : List Int), q ≤ ks.length ∧ m ≤ q ∧ vi = .int .i64 ((q : Int) - 1) ∧ vw = .slice A xs.length c ∧ Aside0 (xs = cutG l id q) ∧ xs.length ≤ 60 ∧ Aside0 (PS wr base g l (.slice none 0 0) [] [(.slice A4 ks.length c4, ks)] [.row 3 .u64 27 (.slice A xs.length c) xs]) ∧ Aside0 (Below base w wr)) (fun _ vi _ => ((intOf vi) + 1).toNat)
          case atStart => exact ⟨ks.length, none, 0, [], Nat.le_refl _, hmk, rfl, rfl, ⟨by rw [HKS.out, cutG_all]⟩, Nat.zero_le _, HP3, B4⟩
          case round =>
            clear HP3 H4 B4
            obtain ⟨q, Aw, cw, xs, hq2, hmq, rfl, rfl, HXS, hxl, HP, HB⟩ := hrel
            by_cases hlt2 : m < q
            · obtain ⟨r, rfl⟩ : ∃ r, q = r + 1 := ⟨q - 1, by omega⟩
              have hjl : r < ks.length := by omega
              have hst := cutG_step (l := l) (id := id) (q := r) (by rw [← HKS.out]; exact hjl)
              rw [← HKS.out, ← HXS.out] at hst
              obtain ⟨bk, ck, he, hcx⟩ := ps_at HP.out (.head _) hjl
              injection he with he _ hcc
              subst he hcc
              obtain ⟨x, hx⟩ : ∃ x, x = ks.getD r 0 := ⟨_, rfl⟩
              have hxk : x ∈ ks := by rw [hx, List.getD_eq_getElem?_getD, List.getElem?_eq_getElem hjl]; exact List.getElem_mem hjl
              rw [← hx] at hcx hst
              have HST := Aside0.mk hst
              have HCL := Aside0.mk (show (cutG l id r).length ≤ 60 from cutG_len HW.out (by have := HL60.out; omega) id r)
              clear hx hst
              have HXU := Aside0.mk (show Tr.u64 x from HW.out.u _ (kid_in (HKS.out ▸ hxk)))
              obtain ⟨os, hos⟩ : ∃ os, os = ord l x := ⟨_, rfl⟩
              have HOL := Aside0.mk (show os.length ≤ 60 by rw [hos]; exact Nat.le_trans (ord_le HW.out x) (by have := HL60.out; omega))
              have HOR := Aside0.mk (ps_order HP.out HXU.out (by have := HL60.out; omega))
              rw [← hos] at HOR
              have HOS := Aside0.mk hos.symm
              clear hos hxk
              have h1 : ((r + 1 : Nat) : Int) - 1 = (r : Int) := by omega
              have h2 : 0 ≤ (r : Int) ∧ (r : Int) < (ks.length : Int) := by omega
              have h3 : (m : Int) ≤ (r : Int) := by omega
              rw [h1]
              go_wp2_with (first
                | (go_at_call 24; refine HOR.out.mono ?_; rintro e w6 ⟨u6, rfl, hP6, hb6⟩; obtain ⟨A6, c6, rfl, _, _⟩ := hP6.row List.mem_cons_self; have H6 := Aside0.mk hP6; have B6 := Aside0.mk (HB.out.trans hb6); clear hP6 hb6)
                | (at_builtin; refine ps_pushes H6.out (by simp [Res.tag]) rfl (.tmp 77) (.tmp 83) rfl (.head _) (by first | rfl | (go_simp; done) | (simp; done)) (by first | rfl | (go_simp; done) | (simp; done)) (by omega) (by have := HOL.out; omega) ?_; intro A9 c9 w9 hP9 hb9; have H9 := Aside0.mk (hP9.sub (rows' := [(.slice (some ⟨bk, 0, none⟩) ks.length c4, ks)]) (fun q hq => List.mem_cons_of_mem _ hq)); have B9 := Aside0.mk (B6.out.trans hb9); clear hP9 hb9))
              have HE := Aside0.mk (show xs ++ os = cutG l id r by rw [HST.out, HOS.out])
              go_roundw
              case rel => exact ⟨r, _, _, xs ++ os, by omega, by omega, rfl, (by first | rfl | (rw [List.length_append]; done) | (rw [List.length_append]; rfl)), HE, by rw [HE.out]; exact HCL.out, H9, B9⟩
              case measure => simp [intOf]
            · obtain rfl : q = m := by omega
              have h1 : ¬ (q : Int) ≤ (q : Int) - 1 := by omega
              have HP4 := Aside0.mk (HP.out.nilrow 4 .u64 27 (by omega))
              go_wp2_with fail
              obtain ⟨gw, hgw⟩ : ∃ gw, gw = xs := ⟨_, rfl⟩
              go_loopw [15, 16] (fun vw vi wr => ∃ (j : Nat) (A : Option Addr) (c : Nat) (ys : List Int), j ≤ q ∧ vi = .int .i64 j ∧ vw = .slice A ys.length c ∧ Aside0 (ys = (ks.take j).flatMap (ord l)) ∧ ys.length ≤ 60 ∧ Aside0 (PS wr base g l (.slice none 0 0) [] [(.slice A4 ks.length c4, ks)] [.row 4 .u64 27 (.slice A ys.length c) ys, .row 3 .u64 27 (.slice Aw xs.length cw) xs]) ∧ Aside0 (Below base w wr)) (fun _ vi _ => q - (intOf vi).toNat)
              case atStart => exact ⟨0, none, 0, [], Nat.zero_le _, rfl, rfl, ⟨rfl⟩, Nat.zero_le _, HP4, HB⟩
              case round =>
                clear HP4 HP HB
                obtain ⟨j, As, cs, ys, hj, rfl, rfl, HYS, hyl, HP, HB⟩ := hrel
                by_cases hlt3 : j < q
                · have hjl : j < ks.length := by omega
                  have hst := stay_step l ks hjl
                  rw [← HYS.out] at hst
                  obtain ⟨bk, ck, he, hcx⟩ := ps_at HP.out (.head _) hjl
                  injection he with he _ hcc
                  subst he hcc
                  obtain ⟨x, hx⟩ : ∃ x, x = ks.getD j 0 := ⟨_, rfl⟩
                  have hxk : x ∈ ks := by rw [hx, List.getD_eq_getElem?_getD, List.getElem?_eq_getElem hjl]; exact List.getElem_mem hjl
                  rw [← hx] at hcx hst
                  have HST := Aside0.mk hst
                  have HCL := Aside0.mk (show ((ks.take (j + 1)).flatMap (ord l)).length ≤ 60 by rw [HKS.out]; exact stay_len HW.out (by have := HL60.out; omega) id (j + 1))
                  clear hx hst
                  have HXU := Aside0.mk (show Tr.u64 x from HW.out.u _ (kid_in (HKS.out ▸ hxk)))
                  obtain ⟨os, hos⟩ : ∃ os, os = ord l x := ⟨_, rfl⟩
                  have HOL := Aside0.mk (show os.length ≤ 60 by rw [hos]; exact Nat.le_trans (ord_le HW.out x) (by have := HL60.out; omega))
                  have HOR := Aside0.mk (ps_order HP.out HXU.out (by have := HL60.out; omega))
                  rw [← hos] at HOR
                  have HOS := Aside0.mk hos.symm
                  clear hos hxk
                  have h2 : 0 ≤ (j : Int) ∧ (j : Int) < (ks.length : Int) := by omega
                  have h3 : (j : Int) < (q : Int) := by omega
                  go_wp2_with (first
                    | (go_at_call 24; refine HOR.out.mono ?_; rintro e w6 ⟨u6, rfl, hP6, hb6⟩; obtain ⟨A6, c6, rfl, _, _⟩ := hP6.row List.mem_cons_self; have H6 := Aside0.mk hP6; have B6 := Aside0.mk (HB.out.trans hb6); clear hP6 hb6)
                    | (at_builtin; refine ps_pushes H6.out (by simp [Res.tag]) rfl (.tmp 90) (.tmp 96) rfl (.head _) (by first | rfl | (go_simp; done) | (simp; done)) (by first | rfl | (go_simp; done) | (simp; done)) (by omega) (by have := HOL.out; omega) ?_; intro A9 c9 w9 hP9 hb9; have H9 := Aside0.mk (hP9.sub (rows' := [(.slice (some ⟨bk, 0, none⟩) ks.length c4, ks)]) (fun q hq => List.mem_cons_of_mem _ hq)); have B9 := Aside0.mk (B6.out.trans hb9); clear hP9 hb9))
                  have HE := Aside0.mk (show ys ++ os = (ks.take (j + 1)).flatMap (ord l) by rw [HST.out, HOS.out])
                  go_roundw
                  case rel => exact ⟨j + 1, _, _, ys ++ os, by omega, by go_num, (by first | rfl | (rw [List.length_append]; done) | (rw [List.length_append]; rfl)), HE, by rw [HE.out]; exact HCL.out, H9, B9⟩
                  case measure => simp [intOf]; omega
                · obtain rfl : j = q := by omega
                  have h3 : ¬ (j : Int) < (j : Int) := by omega
                  have HLC := Aside0.mk (show (cutT l id nn).length + xs.length = ps.length by have := HTH.out.len; rw [← HXS.out] at this; have := HLN.out; omega)
                  have HCA := Aside0.mk (show cutA l id nn = xs by rw [HTH.out.gone, HXS.out])
                  have HKC := Aside0.mk (show kids (cutT l id nn) id = ks.take j by rw [HTH.out.kids, HKS.out])
                  have HOC := Aside0.mk (show ∀ i, i < j → ord (cutT l id nn) (ks.getD i 0) = ord l (ks.getD i 0) by rw [HKS.out]; exact HTH.out.ord)
                  have HCI := Aside0.mk (show ∀ x ∈ ks, Tr.u64 x by rw [HKS.out]; intro x hx; exact HW.out.u _ (kid_in hx))
                  obtain ⟨l2, hl2⟩ : ∃ l2, l2 = cutT l id nn := ⟨_, rfl⟩
                  rw [← hl2] at HLC HKC HOC
                  have HL2 := Aside0.mk hl2
                  clear hl2
                  go_wp2_with fail
                  refine (ps_len HP.out (by have := HL60.out; omega)).mono ?_
                  rw [HLI.out]
                  rintro e w5 ⟨rfl, hw5⟩
                  obtain rfl : wr = w5 := hw5.symm
                  go_wp2_with fail
                  refine (ps_cut HP.out (id := id) (n := nn) HIDU.out (by omega) (by have := HL60.out; omega)).mono ?_
                  rw [← HL2.out, HCA.out]
                  rintro e w6 ⟨u6, rfl, hP6, hb6⟩
                  obtain ⟨Ag, cg, rfl, _, _⟩ := hP6.row List.mem_cons_self
                  have HP5 := Aside0.mk (hP6.nilrow 5 .u64 27 (by omega))
                  have B6 := Aside0.mk (HB.out.trans hb6)
                  clear hP6 hb6 HP HB
                  go_wp2_with fail
                  go_loopw [19, 20] (fun vw vi wr => ∃ (i : Nat) (A : Option Addr) (c : Nat) (zs : List Int), i ≤ j ∧ vi = .int .i64 i ∧ vw = .slice A zs.length c ∧ Aside0 (zs = (ks.take i).flatMap (ord l)) ∧ zs.length ≤ 60 ∧ Aside0 (PS wr base g l2 (.slice none 0 0) [] [(.slice Ag xs.length cg, xs), (.slice A4 ks.length c4, ks)] [.row 5 .u64 27 (.slice A zs.length c) zs, .row 4 .u64 27 (.slice As ys.length cs) ys, .row 3 .u64 27 (.slice Aw xs.length cw) xs]) ∧ Aside0 (Below base w wr)) (fun _ vi _ => j - (intOf vi).toNat)
                  case atStart => exact ⟨0, none, 0, [], Nat.zero_le _, rfl, rfl, ⟨rfl⟩, Nat.zero_le _, HP5, B6⟩
                  case round =>
                    clear HP5 B6
                    obtain ⟨i, At, ct, zs, hi, rfl, rfl, HZS, hzl, HP, HB⟩ := hrel
                    by_cases hlt4 : i < j
                    · have hjl : i < ks.length := by omega
                      have hst := stay_step l ks hjl
                      rw [← HZS.out] at hst
                      have hoc := HOC.out i hlt4
                      obtain ⟨bk, ck, he, hcx⟩ := ps_at HP.out (.tail _ (.head _)) hjl
                      injection he with he _ hcc
                      subst he hcc
                      obtain ⟨x, hx⟩ : ∃ x, x = ks.getD i 0 := ⟨_, rfl⟩
                      have hxk : x ∈ ks := by rw [hx, List.getD_eq_getElem?_getD, List.getElem?_eq_getElem hjl]; exact List.getElem_mem hjl
                      rw [← hx] at hcx hst hoc
                      have HST := Aside0.mk hst
                      have HOC2 := Aside0.mk hoc
                      have HCL := Aside0.mk (show ((ks.take (i + 1)).flatMap (ord l)).length ≤ 60 by rw [HKS.out]; exact stay_len HW.out (by have := HL60.out; omega) id (i + 1))
                      clear hx hst hoc
                      have HXU := Aside0.mk (show Tr.u64 x from HCI.out x hxk)
                      obtain ⟨os, hos⟩ : ∃ os, os = ord l x := ⟨_, rfl⟩
                      have HOL := Aside0.mk (show os.length ≤ 60 by rw [hos]; exact Nat.le_trans (ord_le HW.out x) (by have := HL60.out; omega))
                      have HOR := Aside0.mk (ps_order HP.out HXU.out (by have := HLC.out; omega))
                      rw [HOC2.out] at HOR
                      rw [← hos] at HOR
                      have HOS := Aside0.mk hos.symm
                      clear hos hxk
                      have h2 : 0 ≤ (i : Int) ∧ (i : Int) < (ks.length : Int) := by omega
                      have h4 : (i : Int) < (j : Int) := by omega
                      go_wp2_with (first
                        | (go_at_call 24; refine HOR.out.mono ?_; rintro e w6 ⟨u6, rfl, hP6, hb6⟩; obtain ⟨A6, c6, rfl, _, _⟩ := hP6.row List.mem_cons_self; have H6 := Aside0.mk hP6; have B6 := Aside0.mk (HB.out.trans hb6); clear hP6 hb6)
                        | (at_builtin; refine ps_pushes H6.out (by simp [Res.tag]) rfl (.tmp 111) (.tmp 117) rfl (.head _) (by first | rfl | (go_simp; done) | (simp; done)) (by first | rfl | (go_simp; done) | (simp; done)) (by omega) (by have := HOL.out; omega) ?_; intro A9 c9 w9 hP9 hb9; have H9 := Aside0.mk (hP9.sub (rows' := [(.slice Ag xs.length cg, xs), (.slice (some ⟨bk, 0, none⟩) ks.length c4, ks)]) (fun q hq => List.mem_cons_of_mem _ hq)); have B9 := Aside0.mk (B6.out.trans hb9); clear hP9 hb9))
                      have HE := Aside0.mk (show zs ++ os = (ks.take (i + 1)).flatMap (ord l) by rw [HST.out, HOS.out])
                      go_roundw
                      case rel => exact ⟨i + 1, _, _, zs ++ os, by omega, by go_num, (by first | rfl | (rw [List.length_append]; done) | (rw [List.length_append]; rfl)), HE, by rw [HE.out]; exact HCL.out, H9, B9⟩
                      case measure => simp [intOf]; omega
                    · obtain rfl : i = j := by omega
                      have h4 : ¬ (i : Int) < (i : Int) := by omega
                      obtain ⟨W7, rfl⟩ : ∃ W : World, W = wr := ⟨_, rfl⟩
                      have HZ := Aside0.mk (show zs = ys by rw [HZS.out, HYS.out])
                      have HSG := Aside0.mk (fun (W : World) (hW : Below W7.heap.size W7 W) => q_same (j := 3) (j1 := 3) (HP.out.below hW) (A := Ag) (n := xs.length) (c := cg) (A1 := Aw) (n1 := xs.length) (c1 := cw) (xs := xs) (ys := xs) (.inl (by simp)) (.inr (by simp)) rfl (show xs.length ≤ 1000 by omega))
                      have HSS := Aside0.mk (fun (W : World) (hW : Below W7.heap.size W7 W) => q_same (j := 4) (j1 := 5) (HP.out.below hW) (A := As) (n := ys.length) (c := cs) (A1 := At) (n1 := zs.length) (c1 := ct) (xs := ys) (ys := zs) (.inr (by simp)) (.inr (by simp)) HZ.out.symm (show ys.length ≤ 1000 by omega))
                      have HCH := Aside0.mk (fun (W : World) (hW : Below W7.heap.size W7 W) => q_children (HP.out.below hW) HIDU.out (show l2.length ≤ 60 by have := HLC.out; omega))
                      have HLE := Aside0.mk (fun (W : World) (hW : Below W7.heap.size W7 W) => q_len (HP.out.below hW) (show l2.length ≤ 1000 by have := HLC.out; omega))
                      have HKT := Aside0.mk (fun (W : World) (hW : Below W7.heap.size W7 W) => q_take (HP.out.below hW) (.tail _ (.head _)) hmk)
                      have hcut := ps_cutrow HP.out (.tail _ (.head _)) hmk
                      have hc4 : ks.length ≤ c4 := (HP.out.rowC (.tail _ (.head _))).2.1
                      have hkl : (ks.take i).length = i := by rw [List.length_take]; omega
                      rw [HKC.out, hkl] at HCH
                      have hsub : (ps.length : Int) - (xs.length : Int) = (l2.length : Int) := by have := HLC.out; omega
                      have hwr : IntKind.i64.wrap (l2.length : Int) = (l2.length : Int) := IntWalk.i64_in _ (by have := HLC.out; omega)
                      have HLL := Aside0.mk (show i ≤ c4 ∧ i ≤ 1000 by omega)
                      have hB00 : Below W7.heap.size W7 W7.drew := below_drew (Below.refl _ _)
                      clear hkl hc4
                      go_wp2
                      go_region_held3 (fun w' => Below W7.heap.size W7 w')
                        (first | assumption | exact below_step (by assumption) hb5)
                        ((first
                          | (go_at_call 17; (with_reducible refine (HLE.out _ (by assumption)).mono ?_); rintro e w5 ⟨rfl, hb5⟩; (try replace HC8 := Aside0.mk (Kd.C_below HC8.out hb5)))
                          | (go_at_call 22; (with_reducible refine (HCH.out _ (by assumption)).mono ?_); rintro e w5 ⟨A8, c8, rfl, hc8, hC8, hb5⟩; have HC8 := Aside0.mk hC8; have HCC8 := Aside0.mk hc8; clear hC8 hc8)
                          | (go_at_call 13; (with_reducible refine (HSG.out _ (by assumption)).mono ?_); rintro e w5 ⟨rfl, hb5⟩; (try replace HC8 := Aside0.mk (Kd.C_below HC8.out hb5)))
                          | (go_at_call 13; (with_reducible refine (HSS.out _ (by assumption)).mono ?_); rintro e w5 ⟨rfl, hb5⟩; (try replace HC8 := Aside0.mk (Kd.C_below HC8.out hb5)))
                          | (go_at_call 13; (with_reducible refine (same_n HC8.out HCC8.out (HKT.out _ (by assumption)) HLL.out.1 HLL.out.2).mono ?_); rintro e w5 ⟨rfl, hb5⟩)))
                      rename_i hHeld
                      go_wp2
                      go_ret
                      refine ⟨rfl, ?_⟩
                      have h10 := HB.out.trans (hHeld.mono HP.out.size)
                      rw [HBE.out] at h10
                      exact h10
end Go.Proofs.Ytjnpbikalamchaa.Tr
