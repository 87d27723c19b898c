/- TreePlays, walked by hand: whatever is added, cut and dropped, each answer, and each thing's parent, children and order, are the document's, step by step. -/
import Derived.Test.YtjnpbikalamchaaMPSAll
import Derived.Test.YtjnpbikalamchaaMActs
set_option linter.unusedVariables false
set_option linter.unusedSimpArgs false
namespace Go.Proofs.Ytjnpbikalamchaa.Tr
open Go.RowKit Go.Maps Go.Proofs.YtjnpbikalamchaaW.PrintWords Go.Proofs.YtjnpbikalamchaaW.PrintLast Go.Proofs.YtjnpbikalamchaaW.PrintMore
open Go.Proofs.Ytjnpbikalamchaa.Rf
attribute [local go_sem] max2_int min2_int
theorem blk4 {w : World} {g : Nat} {x0 x1 x2 x3 : Value} {t : Nat} (h : w.heap[g]? = some (.cells #[x0, x1, x2, x3] t (0, 0))) : w.cell? ⟨g, 0, none⟩ = some x0 ∧ w.cell? ⟨g, 1, none⟩ = some x1 ∧ w.cell? ⟨g, 2, none⟩ = some x2 ∧ w.cell? ⟨g, 3, none⟩ = some x3 := by simp [World.cell?, h]
theorem addT_len (l : T) (id p : Int) : (addT l id p).length ≤ l.length + 1 := by unfold addT; split <;> simp
theorem cutT_len (l : T) (id n : Int) : (cutT l id n).length ≤ l.length := List.length_filter_le _ _
theorem dropT_len (l : T) (id : Int) : (dropT l id).length ≤ l.length := List.length_filter_le _ _
theorem PS.doc' {w : World} {base g : Nat} {lt : T} {v : Value} {ld : T} {rows : List (Value × List Int)} {bl : List (Nat × Obj)} (h : PS w base g lt v ld rows bl) : ∃ A c, v = .slice A ld.length c := by
  obtain ⟨A, c, e, _⟩ := h.doc
  rw [toS_len] at e
  exact ⟨A, c, e⟩
theorem PS.rowC {w : World} {base g : Nat} {lt : T} {v : Value} {ld : T} {rows : List (Value × List Int)} {bl : List (Nat × Obj)} (h : PS w base g lt v ld rows bl) {A : Option Addr} {n c : Nat} {xs : List Int} (hq : (.slice A n c, xs) ∈ rows) : Kd.C (Kd.int .u64) w A xs.length xs ∧ xs.length ≤ c ∧ n = xs.length := by
  obtain ⟨A1, c1, e, h1, h2⟩ := h.row hq
  injection e with e1 e2 e3
  subst e1 e2 e3
  exact ⟨h1, h2, rfl⟩
/-- Two rows of the same numbers are the same. -/
theorem ps_same {w : World} {base g : Nat} {lt : T} {v : Value} {ld : T} {rows : List (Value × List Int)} {bl : List (Nat × Obj)} (h : PS w base g lt v ld rows bl) {A A1 : Option Addr} {c c1 : Nat} {xs ys : List Int} (h1 : (.slice A xs.length c, xs) ∈ rows) (h2 : (.slice A1 ys.length c1, ys) ∈ rows) (hl : xs.length ≤ 1000) :
    Calls Try.prog 13 #[.slice A xs.length c, .slice A1 ys.length c1] w fun e w' => e = .returned (.bool (decide (xs = ys))) ∧ PS w' base g lt v ld [] bl ∧ Below base w w' := by
  obtain ⟨a1, a2, _⟩ := h.rowC h1
  obtain ⟨b1, b2, _⟩ := h.rowC h2
  refine (same_c a1 a2 b1 b2 hl).mono ?_
  rintro e w1 ⟨rfl, hb⟩
  exact ⟨rfl, (h.sub (fun q hq => by simp at hq)).below hb, hb.mono h.size⟩
theorem ord_le {l : T} (hw : WfT l) (id : Int) : (ord l id).length ≤ l.length + 1 := by
  unfold ord
  by_cases h : id ∈ ids l
  · rw [if_pos h]; exact Nat.le_trans (hw.ord_len _ _) (by omega)
  · rw [if_neg h]; simp
theorem cutA_len {l : T} (hw : WfT l) (hl : l.length ≤ 60) (id n : Int) : (cutA l id n).length ≤ 60 := by
  unfold cutA
  split
  · exact cutG_len hw hl _ _
  · simp
set_option maxRecDepth 100000 in
set_option maxHeartbeats 16000000 in
theorem plays_walk (A : Option Addr) (c : Nat) (acts : List Act4) (w : World) (hC : ActC w A acts) (hwf : ∀ q ∈ acts, q.ok) :
    Calls Try.prog 3 #[.slice A acts.length c] w fun e w' => e = .returned (.bool true) ∧ Below w.heap.size w w' := by
  have HC := Aside0.mk hC
  have HWF := Aside0.mk hwf
  obtain ⟨base, hbs⟩ : ∃ b, b = w.heap.size := ⟨_, rfl⟩
  have HBA := Aside0.mk (Nat.le_of_eq hbs)
  have HBE := Aside0.mk hbs
  clear hbs hC hwf
  by_cases hlen : 50 < acts.length
  · have h80 : (50 : Int) < (acts.length : Int) := by omega
    go_enter Try.func3, Try.ntmps3
    go_wp2_with fail
    refine (awake_calls w).mono ?_
    rintro e w1 ⟨rfl, hb1⟩
    have HB1 := Aside0.mk hb1
    clear hb1
    go_wp2_with fail
    go_ret
    exact ⟨rfl, HB1.out⟩
  · have h80 : ¬ (50 : Int) < (acts.length : Int) := by omega
    go_enter Try.func3, Try.ntmps3
    go_wp2_with fail
    refine (awake_calls w).mono ?_
    rintro e w1 ⟨rfl, hb1⟩
    have HB1 := Aside0.mk hb1
    clear hb1
    go_wp2_with fail
    refine (ps_new w1 base (Nat.le_trans HBA.out HB1.out.size)).mono ?_
    rintro e w2 ⟨g, rfl, hP2, hb2⟩
    have HP2 := Aside0.mk hP2
    have HB2 := Aside0.mk (show Below base w w2 from (HB1.out.mono HBA.out).trans hb2)
    clear hP2 hb2 HB1
    go_wp2_with fail
    go_loopw [6, 7] (fun vw i wr => ∃ (q : Nat) (l : T), q ≤ acts.length ∧ i = .int .i64 q ∧ l.length ≤ q ∧ Aside0 (PS wr base g l vw l [] []) ∧ Aside0 (Below base w wr)) (fun _ i _ => acts.length - (intOf i).toNat)
    case atStart => exact ⟨0, [], Nat.zero_le _, rfl, Nat.le_refl _, HP2, HB2⟩
    case round =>
      clear HP2 HB2
      obtain ⟨q, l, hq, rfl, hll, hP, hB⟩ := hrel
      obtain ⟨Ad, cd, hv⟩ := hP.out.doc'
      subst hv
      by_cases hlt : q < acts.length
      · obtain ⟨ad, hA, hcell⟩ := HC.out (by omega)
        subst hA
        obtain ⟨e0, e1, e2, e3⟩ := hcell q _ (List.getElem?_eq_getElem hlt)
        have hok := HWF.out _ (List.getElem_mem hlt)
        obtain ⟨a, ha⟩ : ∃ a, a = acts[q] := ⟨_, rfl⟩
        rw [← ha] at e0 e1 e2 e3 hok
        have hblt := World.block_lt_of_cell? w _ e0
        replace e0 := (hB.out.cell (by rw [HBE.out]; exact hblt)).trans e0
        replace e1 := (hB.out.cell (p := ⟨(ad.add (q * 4)).block, (ad.add (q * 4)).off + 1, none⟩) (by rw [HBE.out]; exact hblt)).trans e1
        replace e2 := (hB.out.cell (p := ⟨(ad.add (q * 4)).block, (ad.add (q * 4)).off + 2, none⟩) (by rw [HBE.out]; exact hblt)).trans e2
        replace e3 := (hB.out.cell (p := ⟨(ad.add (q * 4)).block, (ad.add (q * 4)).off + 3, none⟩) (by rw [HBE.out]; exact hblt)).trans e3
        have HCELL := Aside0.mk hcell
        have hin1 : 0 ≤ (q : Int) ∧ (q : Int) < (acts.length : Int) := by omega
        have hin2 : (q : Int) < (acts.length : Int) := by omega
        have hop := hok.1
        obtain ⟨op, hopp⟩ : ∃ x, x = a.op := ⟨_, rfl⟩
        obtain ⟨id, hidd⟩ : ∃ x, x = a.id := ⟨_, rfl⟩
        obtain ⟨pr, hprr⟩ : ∃ x, x = a.pr := ⟨_, rfl⟩
        obtain ⟨nn, hnnn⟩ : ∃ x, x = a.v := ⟨_, rfl⟩
        rw [← hopp] at e0 hop
        have HID := Aside0.mk (show Tr.u64 id by rw [hidd]; unfold Tr.u64; have := hok.2.1; omega)
        have HPR := Aside0.mk (show Tr.u64 pr by rw [hprr]; unfold Tr.u64; have := hok.2.2.1; omega)
        have HNN := Aside0.mk (show -9223372036854775808 ≤ nn ∧ nn ≤ 9223372036854775807 by rw [hnnn]; exact hok.2.2.2)
        rw [← hidd] at e1
        rw [← hprr] at e2
        rw [← hnnn] at e3
        clear hcell ha hblt hok hopp hidd hprr hnnn
        have HL60 := Aside0.mk (show l.length ≤ 49 by omega)
        have HLQ := Aside0.mk hll
        have HP0 := Aside0.mk (hP.out.alloc (.cells #[.int .u8 op, .int .u64 id, .int .u64 pr, .int .i64 nn] 29))
        have HB0 := Aside0.mk (hB.out.trans ((below_alloc (Below.refl _ _) (.cells #[.int .u8 op, .int .u64 id, .int .u64 pr, .int .i64 nn] 29)).mono hP.out.size))
        obtain ⟨W0, hW0⟩ : ∃ W, W = wr.alloc (.cells #[.int .u8 op, .int .u64 id, .int .u64 pr, .int .i64 nn] 29) := ⟨_, rfl⟩
        obtain ⟨ab, hab⟩ : ∃ b, b = wr.heap.size := ⟨_, rfl⟩
        rw [← hW0] at HP0 HB0
        rw [← hab] at HP0
        have HWW := Aside0.mk hW0
        have HAB := Aside0.mk hab
        clear hW0 hab hP hB hll
        by_cases d0 : op = 0
        · subst d0
          as_aux_lemma =>
            obtain ⟨ak, hak⟩ : ∃ b, b = addOk l id pr := ⟨_, rfl⟩
            obtain ⟨l2, hl2⟩ : ∃ l', l' = addT l id pr := ⟨_, rfl⟩
            have HAK := Aside0.mk hak
            have HE2 := Aside0.mk hl2
            have HL2 := Aside0.mk (show l2.length ≤ q + 1 ∧ l2.length ≤ 50 by rw [hl2]; have := addT_len l id pr; have := HLQ.out; have := HL60.out; omega)
            clear hak hl2
            go_wp2_with fail
            rw [← HWW.out, ← HAB.out]
            refine (pd_add HP0.out id pr (by have := HL60.out; omega)).mono ?_
            rw [← HAK.out, ← HE2.out]
            rintro e w3 ⟨v3, rfl, hP3, hb3⟩
            obtain ⟨A3, c3, hv⟩ := hP3.doc'
            subst hv
            have H3 := Aside0.mk hP3
            have B3 := Aside0.mk (HB0.out.trans hb3)
            clear hP3 hb3
            obtain ⟨_, b1, b2, b3⟩ := blk4 (H3.out.blk List.mem_cons_self)
            go_wp2_with fail
            refine (ps_add H3.out HID.out HPR.out (by have := HL60.out; omega)).mono ?_
            rw [← HAK.out, ← HE2.out]
            rintro e w7 ⟨rfl, hP7, hb7⟩
            clear b1 b2 b3
            have H7 := Aside0.mk hP7
            have B7 := Aside0.mk (B3.out.trans hb7)
            clear hP7 hb7
            obtain ⟨_, b1, b2, b3⟩ := blk4 (H7.out.blk List.mem_cons_self)
            go_wp2_with fail
            refine (add_nil id pr w7).mono ?_
            rintro e w6 ⟨rfl, hw6⟩
            obtain rfl : w7 = w6 := hw6.symm
            clear b1 b2 b3
            have hl2 := HL2.out
            obtain ⟨Ae, rfl⟩ : ∃ a : Option Addr, a = A3 := ⟨_, rfl⟩
            obtain ⟨ce, rfl⟩ : ∃ a : Nat, a = c3 := ⟨_, rfl⟩
            go_wp2_with fail
            refine (ps_len H7.out (by omega)).mono ?_
            rintro e w8 ⟨rfl, hw8⟩
            obtain rfl : w7 = w8 := hw8.symm
            go_wp2_with fail
            have HP7 := Aside0.mk (H7.out.sub (rows' := []) (fun q hq => by simp at hq)).nobl
            go_loopw [15] (fun k wr => ∃ j : Nat, j ≤ q + 1 ∧ k = .int .i64 j ∧ Aside0 (PS wr base g l2 (.slice Ae l2.length ce) l2 [] []) ∧ Aside0 (Below base w wr)) (fun k _ => q + 1 - (intOf k).toNat)
            case atStart => exact ⟨0, by omega, rfl, HP7, B7⟩
            case round =>
              clear HP7 H7 B7
              obtain ⟨j, hj, rfl, hP, hB⟩ := hrel
              by_cases hjq : j ≤ q
              · have hjl : j < acts.length := by omega
                obtain ⟨_, f1, _, _⟩ := HCELL.out j _ (List.getElem?_eq_getElem hjl)
                have hok := HWF.out _ (List.getElem_mem hjl)
                obtain ⟨a, ha⟩ : ∃ a, a = acts[j] := ⟨_, rfl⟩
                rw [← ha] at f1 hok
                have hblt := World.block_lt_of_cell? w _ f1
                replace f1 := (hB.out.cell (p := ⟨(ad.add (j * 4)).block, (ad.add (j * 4)).off + 1, none⟩) (by rw [HBE.out]; exact hblt)).trans f1
                have hjn1 : 0 ≤ (j : Int) ∧ (j : Int) < (acts.length : Int) := by omega
                have hjn2 : (j : Int) ≤ (q : Int) := by omega
                obtain ⟨x, hx⟩ : ∃ x, x = a.id := ⟨_, rfl⟩
                have HX := Aside0.mk (show Tr.u64 x by rw [hx]; unfold Tr.u64; have := hok.2.1; omega)
                rw [← hx] at f1
                have HWT := Aside0.mk hP.out.wft
                clear ha hblt hok hx
                go_wp2_with fail
                refine (ps_has hP.out HX.out).mono ?_
                obtain ⟨b1, hb1⟩ : ∃ b, b = decide (x ≠ 0 ∧ x ∈ ids l2) := ⟨_, rfl⟩
                have HB1 := Aside0.mk hb1
                rw [← hb1]
                clear hb1
                rintro e w9 ⟨rfl, hw9⟩
                obtain rfl : wr = w9 := hw9.symm
                go_wp2_with fail
                refine (pd_has hP.out x (by omega)).mono ?_
                rw [← HB1.out]
                rintro e w9 ⟨rfl, hP9, hb9⟩
                have H9 := Aside0.mk hP9
                have B9 := Aside0.mk (hB.out.trans hb9)
                clear hP9 hb9
                go_wp2_with fail
                refine (ps_parent H9.out HX.out).mono ?_
                obtain ⟨p1, hp1⟩ : ∃ p, p = par l2 x := ⟨_, rfl⟩
                have HP1 := Aside0.mk hp1
                rw [← hp1]
                clear hp1
                rintro e w10 ⟨rfl, hw10⟩
                obtain rfl : w9 = w10 := hw10.symm
                go_wp2_with fail
                refine (pd_parent H9.out x (by omega)).mono ?_
                rw [← HP1.out]
                rintro e w10 ⟨rfl, hP10, hb10⟩
                have H10 := Aside0.mk hP10
                have B10 := Aside0.mk (B9.out.trans hb10)
                clear hP10 hb10
                go_wp2_with fail
                have hk2 : (kids l2 x).length ≤ 50 := Nat.le_trans (kids_len _ _) (by omega)
                obtain ⟨ks, hks⟩ : ∃ ks, ks = kids l2 x := ⟨_, rfl⟩
                have HKS := Aside0.mk hks
                rw [← hks] at hk2
                clear hks
                refine (ps_children H10.out HX.out (by omega)).mono ?_
                rw [← HKS.out]
                rintro e w11 ⟨u11, rfl, hP11, hb11⟩
                obtain ⟨A11, c11, rfl, _, _⟩ := hP11.row List.mem_cons_self
                have H11 := Aside0.mk hP11
                have B11 := Aside0.mk (B10.out.trans hb11)
                clear hP11 hb11
                go_wp2_with fail
                refine (pd_children H11.out x (by omega)).mono ?_
                rw [← HKS.out]
                rintro e w12 ⟨u12, rfl, hP12, hb12⟩
                obtain ⟨A12, c12, rfl, _, _⟩ := hP12.row List.mem_cons_self
                have H12 := Aside0.mk hP12
                have B12 := Aside0.mk (B11.out.trans hb12)
                clear hP12 hb12
                go_wp2_with fail
                refine (ps_same H12.out (xs := ks) (ys := ks) (by simp) (by simp) (by omega)).mono ?_
                rw [decide_eq_true rfl]
                rintro e w13 ⟨rfl, hP13, hb13⟩
                have H13 := Aside0.mk hP13
                have B13 := Aside0.mk (B12.out.trans hb13)
                clear hP13 hb13
                go_wp2_with fail
                have ho2 : (ord l2 x).length ≤ 60 := Nat.le_trans (ord_le HWT.out x) (by omega)
                obtain ⟨os, hos⟩ : ∃ os, os = ord l2 x := ⟨_, rfl⟩
                have HOS := Aside0.mk hos
                rw [← hos] at ho2
                clear hos
                refine (ps_order H13.out HX.out (by omega)).mono ?_
                rw [← HOS.out]
                rintro e w14 ⟨u14, rfl, hP14, hb14⟩
                obtain ⟨A14, c14, rfl, _, _⟩ := hP14.row List.mem_cons_self
                have H14 := Aside0.mk hP14
                have B14 := Aside0.mk (B13.out.trans hb14)
                clear hP14 hb14
                go_wp2_with fail
                refine (pd_order H14.out HWT.out x (by omega)).mono ?_
                rw [← HOS.out]
                rintro e w15 ⟨u15, rfl, hP15, hb15⟩
                obtain ⟨A15, c15, rfl, _, _⟩ := hP15.row List.mem_cons_self
                have H15 := Aside0.mk hP15
                have B15 := Aside0.mk (B14.out.trans hb15)
                clear hP15 hb15
                go_wp2_with fail
                refine (ps_same H15.out (xs := os) (ys := os) (by simp) (by simp) (by omega)).mono ?_
                rw [decide_eq_true rfl]
                rintro e w16 ⟨rfl, hP16, hb16⟩
                have H16 := Aside0.mk hP16
                have B16 := Aside0.mk (B15.out.trans hb16)
                clear hP16 hb16
                go_wp2_with fail
                go_roundw
                case rel => exact ⟨j + 1, by omega, by go_num, H16, B16⟩
                case measure => simp [intOf]; omega
              · obtain rfl : j = q + 1 := by omega
                have hjn : ¬ ((q + 1 : Nat) : Int) ≤ (q : Int) := by omega
                go_wp2_with fail
                go_roundw
                case rel => exact ⟨q + 1, l2, by omega, by go_num, by omega, hP, hB⟩
                case measure => simp [intOf]; omega
        · by_cases d1 : op = 1
          · subst d1
            as_aux_lemma =>
              obtain ⟨ak, hak⟩ : ∃ b, b = cutA l id nn := ⟨_, rfl⟩
              obtain ⟨l2, hl2⟩ : ∃ l', l' = cutT l id nn := ⟨_, rfl⟩
              have HAK := Aside0.mk hak
              have HE2 := Aside0.mk hl2
              have HL2 := Aside0.mk (show l2.length ≤ q + 1 ∧ l2.length ≤ 50 by rw [hl2]; have := cutT_len l id nn; have := HLQ.out; have := HL60.out; omega)
              have hak60 : ak.length ≤ 60 := by rw [hak]; exact cutA_len HP0.out.wft (by have := HL60.out; omega) id nn
              clear hak hl2
              go_wp2_with fail
              rw [← HWW.out, ← HAB.out]
              refine (pd_cut HP0.out HP0.out.wft id nn HNN.out.2 (by have := HL60.out; omega)).mono ?_
              rw [← HAK.out, ← HE2.out]
              rintro e w3 ⟨v3, u3, rfl, hP3, hb3⟩
              obtain ⟨A3, c3, hv⟩ := hP3.doc'
              subst hv
              obtain ⟨D3, d3, rfl, _, _⟩ := hP3.row List.mem_cons_self
              have H3 := Aside0.mk hP3
              have B3 := Aside0.mk (HB0.out.trans hb3)
              clear hP3 hb3
              obtain ⟨_, b1, b2, b3⟩ := blk4 (H3.out.blk List.mem_cons_self)
              go_wp2_with fail
              refine (ps_cut H3.out HID.out HNN.out (by have := HL60.out; omega)).mono ?_
              rw [← HAK.out, ← HE2.out]
              rintro e w4 ⟨u4, rfl, hP4, hb4⟩
              obtain ⟨D4, d4, rfl, _, _⟩ := hP4.row List.mem_cons_self
              clear b1 b2 b3
              have H4 := Aside0.mk hP4
              have B4 := Aside0.mk (B3.out.trans hb4)
              clear hP4 hb4
              obtain ⟨_, b1, b2, b3⟩ := blk4 (H4.out.blk List.mem_cons_self)
              go_wp2_with fail
              refine (ps_same H4.out (xs := ak) (ys := ak) (by simp) (by simp) (by omega)).mono ?_
              rw [decide_eq_true rfl]
              rintro e w7 ⟨rfl, hP7, hb7⟩
              clear b1 b2 b3
              have H7 := Aside0.mk hP7
              have B7 := Aside0.mk (B4.out.trans hb7)
              clear hP7 hb7
              obtain ⟨_, b1, b2, b3⟩ := blk4 (H7.out.blk List.mem_cons_self)
              go_wp2_with fail
              refine (cut_nil id nn w7).mono ?_
              rintro e w6 ⟨rfl, hw6⟩
              obtain rfl : w7 = w6 := hw6.symm
              clear b1 b2 b3
              have hl2 := HL2.out
              obtain ⟨Ae, rfl⟩ : ∃ a : Option Addr, a = A3 := ⟨_, rfl⟩
              obtain ⟨ce, rfl⟩ : ∃ a : Nat, a = c3 := ⟨_, rfl⟩
              go_wp2_with fail
              refine (ps_len H7.out (by omega)).mono ?_
              rintro e w8 ⟨rfl, hw8⟩
              obtain rfl : w7 = w8 := hw8.symm
              go_wp2_with fail
              have HP7 := Aside0.mk (H7.out.sub (rows' := []) (fun q hq => by simp at hq)).nobl
              go_loopw [15] (fun k wr => ∃ j : Nat, j ≤ q + 1 ∧ k = .int .i64 j ∧ Aside0 (PS wr base g l2 (.slice Ae l2.length ce) l2 [] []) ∧ Aside0 (Below base w wr)) (fun k _ => q + 1 - (intOf k).toNat)
              case atStart => exact ⟨0, by omega, rfl, HP7, B7⟩
              case round =>
                clear HP7 H7 B7
                obtain ⟨j, hj, rfl, hP, hB⟩ := hrel
                by_cases hjq : j ≤ q
                · have hjl : j < acts.length := by omega
                  obtain ⟨_, f1, _, _⟩ := HCELL.out j _ (List.getElem?_eq_getElem hjl)
                  have hok := HWF.out _ (List.getElem_mem hjl)
                  obtain ⟨a, ha⟩ : ∃ a, a = acts[j] := ⟨_, rfl⟩
                  rw [← ha] at f1 hok
                  have hblt := World.block_lt_of_cell? w _ f1
                  replace f1 := (hB.out.cell (p := ⟨(ad.add (j * 4)).block, (ad.add (j * 4)).off + 1, none⟩) (by rw [HBE.out]; exact hblt)).trans f1
                  have hjn1 : 0 ≤ (j : Int) ∧ (j : Int) < (acts.length : Int) := by omega
                  have hjn2 : (j : Int) ≤ (q : Int) := by omega
                  obtain ⟨x, hx⟩ : ∃ x, x = a.id := ⟨_, rfl⟩
                  have HX := Aside0.mk (show Tr.u64 x by rw [hx]; unfold Tr.u64; have := hok.2.1; omega)
                  rw [← hx] at f1
                  have HWT := Aside0.mk hP.out.wft
                  clear ha hblt hok hx
                  go_wp2_with fail
                  refine (ps_has hP.out HX.out).mono ?_
                  obtain ⟨b1, hb1⟩ : ∃ b, b = decide (x ≠ 0 ∧ x ∈ ids l2) := ⟨_, rfl⟩
                  have HB1 := Aside0.mk hb1
                  rw [← hb1]
                  clear hb1
                  rintro e w9 ⟨rfl, hw9⟩
                  obtain rfl : wr = w9 := hw9.symm
                  go_wp2_with fail
                  refine (pd_has hP.out x (by omega)).mono ?_
                  rw [← HB1.out]
                  rintro e w9 ⟨rfl, hP9, hb9⟩
                  have H9 := Aside0.mk hP9
                  have B9 := Aside0.mk (hB.out.trans hb9)
                  clear hP9 hb9
                  go_wp2_with fail
                  refine (ps_parent H9.out HX.out).mono ?_
                  obtain ⟨p1, hp1⟩ : ∃ p, p = par l2 x := ⟨_, rfl⟩
                  have HP1 := Aside0.mk hp1
                  rw [← hp1]
                  clear hp1
                  rintro e w10 ⟨rfl, hw10⟩
                  obtain rfl : w9 = w10 := hw10.symm
                  go_wp2_with fail
                  refine (pd_parent H9.out x (by omega)).mono ?_
                  rw [← HP1.out]
                  rintro e w10 ⟨rfl, hP10, hb10⟩
                  have H10 := Aside0.mk hP10
                  have B10 := Aside0.mk (B9.out.trans hb10)
                  clear hP10 hb10
                  go_wp2_with fail
                  have hk2 : (kids l2 x).length ≤ 50 := Nat.le_trans (kids_len _ _) (by omega)
                  obtain ⟨ks, hks⟩ : ∃ ks, ks = kids l2 x := ⟨_, rfl⟩
                  have HKS := Aside0.mk hks
                  rw [← hks] at hk2
                  clear hks
                  refine (ps_children H10.out HX.out (by omega)).mono ?_
                  rw [← HKS.out]
                  rintro e w11 ⟨u11, rfl, hP11, hb11⟩
                  obtain ⟨A11, c11, rfl, _, _⟩ := hP11.row List.mem_cons_self
                  have H11 := Aside0.mk hP11
                  have B11 := Aside0.mk (B10.out.trans hb11)
                  clear hP11 hb11
                  go_wp2_with fail
                  refine (pd_children H11.out x (by omega)).mono ?_
                  rw [← HKS.out]
                  rintro e w12 ⟨u12, rfl, hP12, hb12⟩
                  obtain ⟨A12, c12, rfl, _, _⟩ := hP12.row List.mem_cons_self
                  have H12 := Aside0.mk hP12
                  have B12 := Aside0.mk (B11.out.trans hb12)
                  clear hP12 hb12
                  go_wp2_with fail
                  refine (ps_same H12.out (xs := ks) (ys := ks) (by simp) (by simp) (by omega)).mono ?_
                  rw [decide_eq_true rfl]
                  rintro e w13 ⟨rfl, hP13, hb13⟩
                  have H13 := Aside0.mk hP13
                  have B13 := Aside0.mk (B12.out.trans hb13)
                  clear hP13 hb13
                  go_wp2_with fail
                  have ho2 : (ord l2 x).length ≤ 60 := Nat.le_trans (ord_le HWT.out x) (by omega)
                  obtain ⟨os, hos⟩ : ∃ os, os = ord l2 x := ⟨_, rfl⟩
                  have HOS := Aside0.mk hos
                  rw [← hos] at ho2
                  clear hos
                  refine (ps_order H13.out HX.out (by omega)).mono ?_
                  rw [← HOS.out]
                  rintro e w14 ⟨u14, rfl, hP14, hb14⟩
                  obtain ⟨A14, c14, rfl, _, _⟩ := hP14.row List.mem_cons_self
                  have H14 := Aside0.mk hP14
                  have B14 := Aside0.mk (B13.out.trans hb14)
                  clear hP14 hb14
                  go_wp2_with fail
                  refine (pd_order H14.out HWT.out x (by omega)).mono ?_
                  rw [← HOS.out]
                  rintro e w15 ⟨u15, rfl, hP15, hb15⟩
                  obtain ⟨A15, c15, rfl, _, _⟩ := hP15.row List.mem_cons_self
                  have H15 := Aside0.mk hP15
                  have B15 := Aside0.mk (B14.out.trans hb15)
                  clear hP15 hb15
                  go_wp2_with fail
                  refine (ps_same H15.out (xs := os) (ys := os) (by simp) (by simp) (by omega)).mono ?_
                  rw [decide_eq_true rfl]
                  rintro e w16 ⟨rfl, hP16, hb16⟩
                  have H16 := Aside0.mk hP16
                  have B16 := Aside0.mk (B15.out.trans hb16)
                  clear hP16 hb16
                  go_wp2_with fail
                  go_roundw
                  case rel => exact ⟨j + 1, by omega, by go_num, H16, B16⟩
                  case measure => simp [intOf]; omega
                · obtain rfl : j = q + 1 := by omega
                  have hjn : ¬ ((q + 1 : Nat) : Int) ≤ (q : Int) := by omega
                  go_wp2_with fail
                  go_roundw
                  case rel => exact ⟨q + 1, l2, by omega, by go_num, by omega, hP, hB⟩
                  case measure => simp [intOf]; omega
          ·
            as_aux_lemma =>
              obtain ⟨ak, hak⟩ : ∃ b, b = ord l id := ⟨_, rfl⟩
              obtain ⟨l2, hl2⟩ : ∃ l', l' = dropT l id := ⟨_, rfl⟩
              have HAK := Aside0.mk hak
              have HE2 := Aside0.mk hl2
              have HL2 := Aside0.mk (show l2.length ≤ q + 1 ∧ l2.length ≤ 50 by rw [hl2]; have := dropT_len l id; have := HLQ.out; have := HL60.out; omega)
              have hak60 : ak.length ≤ 60 := by rw [hak]; exact Nat.le_trans (ord_le HP0.out.wft id) (by have := HL60.out; omega)
              clear hak hl2
              go_wp2_with fail
              rw [← HWW.out, ← HAB.out]
              refine (pd_drop HP0.out HP0.out.wft id (by have := HL60.out; omega)).mono ?_
              rw [← HAK.out, ← HE2.out]
              rintro e w3 ⟨v3, u3, rfl, hP3, hb3⟩
              obtain ⟨A3, c3, hv⟩ := hP3.doc'
              subst hv
              obtain ⟨D3, d3, rfl, _, _⟩ := hP3.row List.mem_cons_self
              have H3 := Aside0.mk hP3
              have B3 := Aside0.mk (HB0.out.trans hb3)
              clear hP3 hb3
              obtain ⟨_, b1, b2, b3⟩ := blk4 (H3.out.blk List.mem_cons_self)
              go_wp2_with fail
              refine (ps_drop H3.out HID.out (by have := HL60.out; omega)).mono ?_
              rw [← HAK.out, ← HE2.out]
              rintro e w4 ⟨u4, rfl, hP4, hb4⟩
              obtain ⟨D4, d4, rfl, _, _⟩ := hP4.row List.mem_cons_self
              clear b1 b2 b3
              have H4 := Aside0.mk hP4
              have B4 := Aside0.mk (B3.out.trans hb4)
              clear hP4 hb4
              obtain ⟨_, b1, b2, b3⟩ := blk4 (H4.out.blk List.mem_cons_self)
              go_wp2_with fail
              refine (ps_same H4.out (xs := ak) (ys := ak) (by simp) (by simp) (by omega)).mono ?_
              rw [decide_eq_true rfl]
              rintro e w7 ⟨rfl, hP7, hb7⟩
              clear b1 b2 b3
              have H7 := Aside0.mk hP7
              have B7 := Aside0.mk (B4.out.trans hb7)
              clear hP7 hb7
              obtain ⟨_, b1, b2, b3⟩ := blk4 (H7.out.blk List.mem_cons_self)
              go_wp2_with fail
              refine (drop_nil id w7).mono ?_
              rintro e w6 ⟨rfl, hb6⟩
              obtain ⟨W7, hW7⟩ : ∃ W, W = w7 := ⟨_, rfl⟩
              have H6 := Aside0.mk (H7.out.below hb6)
              have B6 := Aside0.mk (B7.out.trans (hb6.mono H7.out.size))
              clear b1 b2 b3 hW7 hb6 H7 B7
              have H7 := H6
              have B7 := B6
              clear H6 B6
              obtain ⟨w7, rfl⟩ : ∃ W : World, W = w6 := ⟨_, rfl⟩
              have hl2 := HL2.out
              obtain ⟨Ae, rfl⟩ : ∃ a : Option Addr, a = A3 := ⟨_, rfl⟩
              obtain ⟨ce, rfl⟩ : ∃ a : Nat, a = c3 := ⟨_, rfl⟩
              go_wp2_with fail
              refine (ps_len H7.out (by omega)).mono ?_
              rintro e w8 ⟨rfl, hw8⟩
              obtain rfl : w7 = w8 := hw8.symm
              go_wp2_with fail
              have HP7 := Aside0.mk (H7.out.sub (rows' := []) (fun q hq => by simp at hq)).nobl
              go_loopw [15] (fun k wr => ∃ j : Nat, j ≤ q + 1 ∧ k = .int .i64 j ∧ Aside0 (PS wr base g l2 (.slice Ae l2.length ce) l2 [] []) ∧ Aside0 (Below base w wr)) (fun k _ => q + 1 - (intOf k).toNat)
              case atStart => exact ⟨0, by omega, rfl, HP7, B7⟩
              case round =>
                clear HP7 H7 B7
                obtain ⟨j, hj, rfl, hP, hB⟩ := hrel
                by_cases hjq : j ≤ q
                · have hjl : j < acts.length := by omega
                  obtain ⟨_, f1, _, _⟩ := HCELL.out j _ (List.getElem?_eq_getElem hjl)
                  have hok := HWF.out _ (List.getElem_mem hjl)
                  obtain ⟨a, ha⟩ : ∃ a, a = acts[j] := ⟨_, rfl⟩
                  rw [← ha] at f1 hok
                  have hblt := World.block_lt_of_cell? w _ f1
                  replace f1 := (hB.out.cell (p := ⟨(ad.add (j * 4)).block, (ad.add (j * 4)).off + 1, none⟩) (by rw [HBE.out]; exact hblt)).trans f1
                  have hjn1 : 0 ≤ (j : Int) ∧ (j : Int) < (acts.length : Int) := by omega
                  have hjn2 : (j : Int) ≤ (q : Int) := by omega
                  obtain ⟨x, hx⟩ : ∃ x, x = a.id := ⟨_, rfl⟩
                  have HX := Aside0.mk (show Tr.u64 x by rw [hx]; unfold Tr.u64; have := hok.2.1; omega)
                  rw [← hx] at f1
                  have HWT := Aside0.mk hP.out.wft
                  clear ha hblt hok hx
                  go_wp2_with fail
                  refine (ps_has hP.out HX.out).mono ?_
                  obtain ⟨b1, hb1⟩ : ∃ b, b = decide (x ≠ 0 ∧ x ∈ ids l2) := ⟨_, rfl⟩
                  have HB1 := Aside0.mk hb1
                  rw [← hb1]
                  clear hb1
                  rintro e w9 ⟨rfl, hw9⟩
                  obtain rfl : wr = w9 := hw9.symm
                  go_wp2_with fail
                  refine (pd_has hP.out x (by omega)).mono ?_
                  rw [← HB1.out]
                  rintro e w9 ⟨rfl, hP9, hb9⟩
                  have H9 := Aside0.mk hP9
                  have B9 := Aside0.mk (hB.out.trans hb9)
                  clear hP9 hb9
                  go_wp2_with fail
                  refine (ps_parent H9.out HX.out).mono ?_
                  obtain ⟨p1, hp1⟩ : ∃ p, p = par l2 x := ⟨_, rfl⟩
                  have HP1 := Aside0.mk hp1
                  rw [← hp1]
                  clear hp1
                  rintro e w10 ⟨rfl, hw10⟩
                  obtain rfl : w9 = w10 := hw10.symm
                  go_wp2_with fail
                  refine (pd_parent H9.out x (by omega)).mono ?_
                  rw [← HP1.out]
                  rintro e w10 ⟨rfl, hP10, hb10⟩
                  have H10 := Aside0.mk hP10
                  have B10 := Aside0.mk (B9.out.trans hb10)
                  clear hP10 hb10
                  go_wp2_with fail
                  have hk2 : (kids l2 x).length ≤ 50 := Nat.le_trans (kids_len _ _) (by omega)
                  obtain ⟨ks, hks⟩ : ∃ ks, ks = kids l2 x := ⟨_, rfl⟩
                  have HKS := Aside0.mk hks
                  rw [← hks] at hk2
                  clear hks
                  refine (ps_children H10.out HX.out (by omega)).mono ?_
                  rw [← HKS.out]
                  rintro e w11 ⟨u11, rfl, hP11, hb11⟩
                  obtain ⟨A11, c11, rfl, _, _⟩ := hP11.row List.mem_cons_self
                  have H11 := Aside0.mk hP11
                  have B11 := Aside0.mk (B10.out.trans hb11)
                  clear hP11 hb11
                  go_wp2_with fail
                  refine (pd_children H11.out x (by omega)).mono ?_
                  rw [← HKS.out]
                  rintro e w12 ⟨u12, rfl, hP12, hb12⟩
                  obtain ⟨A12, c12, rfl, _, _⟩ := hP12.row List.mem_cons_self
                  have H12 := Aside0.mk hP12
                  have B12 := Aside0.mk (B11.out.trans hb12)
                  clear hP12 hb12
                  go_wp2_with fail
                  refine (ps_same H12.out (xs := ks) (ys := ks) (by simp) (by simp) (by omega)).mono ?_
                  rw [decide_eq_true rfl]
                  rintro e w13 ⟨rfl, hP13, hb13⟩
                  have H13 := Aside0.mk hP13
                  have B13 := Aside0.mk (B12.out.trans hb13)
                  clear hP13 hb13
                  go_wp2_with fail
                  have ho2 : (ord l2 x).length ≤ 60 := Nat.le_trans (ord_le HWT.out x) (by omega)
                  obtain ⟨os, hos⟩ : ∃ os, os = ord l2 x := ⟨_, rfl⟩
                  have HOS := Aside0.mk hos
                  rw [← hos] at ho2
                  clear hos
                  refine (ps_order H13.out HX.out (by omega)).mono ?_
                  rw [← HOS.out]
                  rintro e w14 ⟨u14, rfl, hP14, hb14⟩
                  obtain ⟨A14, c14, rfl, _, _⟩ := hP14.row List.mem_cons_self
                  have H14 := Aside0.mk hP14
                  have B14 := Aside0.mk (B13.out.trans hb14)
                  clear hP14 hb14
                  go_wp2_with fail
                  refine (pd_order H14.out HWT.out x (by omega)).mono ?_
                  rw [← HOS.out]
                  rintro e w15 ⟨u15, rfl, hP15, hb15⟩
                  obtain ⟨A15, c15, rfl, _, _⟩ := hP15.row List.mem_cons_self
                  have H15 := Aside0.mk hP15
                  have B15 := Aside0.mk (B14.out.trans hb15)
                  clear hP15 hb15
                  go_wp2_with fail
                  refine (ps_same H15.out (xs := os) (ys := os) (by simp) (by simp) (by omega)).mono ?_
                  rw [decide_eq_true rfl]
                  rintro e w16 ⟨rfl, hP16, hb16⟩
                  have H16 := Aside0.mk hP16
                  have B16 := Aside0.mk (B15.out.trans hb16)
                  clear hP16 hb16
                  go_wp2_with fail
                  go_roundw
                  case rel => exact ⟨j + 1, by omega, by go_num, H16, B16⟩
                  case measure => simp [intOf]; omega
                · obtain rfl : j = q + 1 := by omega
                  have hjn : ¬ ((q + 1 : Nat) : Int) ≤ (q : Int) := by omega
                  go_wp2_with fail
                  go_roundw
                  case rel => exact ⟨q + 1, l2, by omega, by go_num, by omega, hP, hB⟩
                  case measure => simp [intOf]; omega
      ·
        as_aux_lemma =>
          have hqe : q = acts.length := by omega
          have hnq : ¬ (q : Int) < (acts.length : Int) := by omega
          have HWT := Aside0.mk hP.out.wft
          have hk2 : (kids l 0).length ≤ 50 := Nat.le_trans (kids_len _ _) (by omega)
          obtain ⟨ks, hks⟩ : ∃ ks, ks = kids l 0 := ⟨_, rfl⟩
          have HKS := Aside0.mk hks
          rw [← hks] at hk2
          clear hks
          have HU0 := Aside0.mk (show Tr.u64 0 by unfold Tr.u64; omega)
          go_wp2_with fail
          refine (ps_children hP.out HU0.out (by omega)).mono ?_
          rw [← HKS.out]
          rintro e w11 ⟨u11, rfl, hP11, hb11⟩
          obtain ⟨A11, c11, rfl, _, _⟩ := hP11.row List.mem_cons_self
          have H11 := Aside0.mk hP11
          have B11 := Aside0.mk (hB.out.trans hb11)
          clear hP11 hb11
          go_wp2_with fail
          refine (pd_children H11.out 0 (by omega)).mono ?_
          rw [← HKS.out]
          rintro e w12 ⟨u12, rfl, hP12, hb12⟩
          obtain ⟨A12, c12, rfl, _, _⟩ := hP12.row List.mem_cons_self
          have H12 := Aside0.mk hP12
          have B12 := Aside0.mk (B11.out.trans hb12)
          clear hP12 hb12
          go_wp2_with fail
          refine (ps_same H12.out (xs := ks) (ys := ks) (by simp) (by simp) (by omega)).mono ?_
          rw [decide_eq_true rfl]
          rintro e w13 ⟨rfl, hP13, hb13⟩
          have H13 := Aside0.mk hP13
          have B13 := Aside0.mk (B12.out.trans hb13)
          clear hP13 hb13
          go_wp2_with fail
          refine (has_nil 1 w13).mono ?_
          rintro e w14 ⟨rfl, hw14⟩
          obtain rfl : w13 = w14 := hw14.symm
          go_wp2_with fail
          refine (parent_nil 1 w13).mono ?_
          rintro e w14 ⟨rfl, hw14⟩
          obtain rfl : w13 = w14 := hw14.symm
          go_wp2_with fail
          refine (children_nil 0 w13).mono ?_
          rintro e w14 ⟨rfl, hw14⟩
          obtain rfl : w13 = w14 := hw14.symm
          go_wp2_with fail
          refine (order_nil 1 w13).mono ?_
          rintro e w14 ⟨rfl, hb14⟩
          have H14 := Aside0.mk (H13.out.below hb14)
          have B14 := Aside0.mk (B13.out.trans (hb14.mono H13.out.size))
          clear hb14
          go_wp2_with fail
          refine (len_nil w14).mono ?_
          rintro e w15 ⟨rfl, hw15⟩
          obtain rfl : w14 = w15 := hw15.symm
          go_wp2_with fail
          refine (ps_order H14.out HU0.out (by omega)).mono ?_
          rw [ord_none (HWT.out.zero : (0 : Int) ∉ ids l)]
          rintro e w16 ⟨u16, rfl, hP16, hb16⟩
          obtain ⟨A16, c16, hv, _, _⟩ := hP16.row List.mem_cons_self
          subst hv
          go_wp2_with fail
          go_ret
          refine ⟨rfl, ?_⟩
          have h10 := B14.out.trans hb16
          rw [HBE.out] at h10
          exact h10
end Go.Proofs.Ytjnpbikalamchaa.Tr
