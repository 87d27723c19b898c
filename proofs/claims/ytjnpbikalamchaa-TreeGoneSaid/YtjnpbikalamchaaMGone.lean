/- TreeGone, walked by hand: what was dropped isn't there, nor is what stood below it; all else is. -/
import Derived.Test.YtjnpbikalamchaaMBuild
set_option linter.unusedVariables false
set_option linter.unusedSimpArgs false
namespace Go.Proofs.Ytjnpbikalamchaa.Tr
open Go.RowKit Go.Maps Go.Proofs.YtjnpbikalamchaaW.PrintWords Go.Proofs.YtjnpbikalamchaaW.PrintLast Go.Proofs.YtjnpbikalamchaaW.PrintMore
open Go.Proofs.Ytjnpbikalamchaa.Rf
attribute [local go_sem] max2_int min2_int
/-- What is dropped and added again. -/
structure GoneT (l : T) (id : Int) : Prop where
  len : (dropT l id).length + (ord l id).length = l.length
  wf : WfT (dropT l id)
  not : ∀ y ∈ ord l id, y ∉ ids (dropT l id) ∧ y ≠ 0
  kids : kids (dropT l id) (par l id) = (kids l (par l id)).filter (fun c => decide (c ≠ id))
  ok : addOk (dropT l id) id (par l id) = true
  kids3 : Tr.kids (addT (dropT l id) id (par l id)) (par l id) = (Tr.kids l (par l id)).filter (fun c => decide (c ≠ id)) ++ [id]
  kid0 : Tr.kids (addT (dropT l id) id (par l id)) id = []
  idn : id ∉ ids (dropT l id)
theorem goneT {l : T} (h : WfT l) {id : Int} (hid : id ∈ ids l) (hp : par l id ≠ id) : GoneT l id := by
  have hcl := h.ord_closed hid
  have hself : id ∈ ord l id := (h.mem_ord_iff hid).2 (.refl id)
  have e : ord l id = ordF (Tr.kids l) l.length id := by unfold ord; rw [if_pos hid]
  have hnd : (ord l id).Nodup := by rw [e]; exact h.ord_nodup _ _
  have hsub : ∀ x ∈ ord l id, x ∈ ids l := fun x hx => by
    by_cases c : x = id
    · rw [c]; exact hid
    · exact ((h.mem_ord_iff hid).1 hx).mem c
  have hwf : WfT (dropT l id) := h.without hcl
  have hidn : id ∉ ids (dropT l id) := fun hm => (mem_without.1 hm).2 hself
  have hk : Tr.kids (dropT l id) (par l id) = (Tr.kids l (par l id)).filter (fun c => decide (c ≠ id)) := by
    have := h.kids_drop hid (h.par_stays hid)
    rw [if_pos rfl] at this
    exact this
  have hin : inT (dropT l id) (par l id) := by
    rcases h.par_in hid with c | c
    · exact .inl c
    · exact .inr (mem_without.2 ⟨c, h.par_stays hid⟩)
  have hni : ¬ inT (dropT l id) id := by
    rintro (c | c)
    · rw [c] at hid; exact h.zero hid
    · exact hidn c
  have hok : addOk (dropT l id) id (par l id) = true := by unfold addOk; rw [decide_eq_true_eq]; exact ⟨hni, hin⟩
  have hadd : addT (dropT l id) id (par l id) = dropT l id ++ [(id, par l id)] := by unfold addT; rw [hok, if_pos rfl]
  exact ⟨without_len hnd hsub h.nodup, hwf, fun y hy => ⟨fun hm => (mem_without.1 hm).2 hy, fun c => hcl.1 (c ▸ hy)⟩, hk, hok, by rw [hadd, kids_snoc, if_pos rfl, hk], by rw [hadd, kids_snoc, if_neg (fun c => hp c.symm)]; exact hwf.kids_none hni, hidn⟩
theorem filter_step (ks : List Int) (id : Int) {i : Nat} (hi : i < ks.length) : (ks.take (i + 1)).filter (fun c => decide (c ≠ id)) = (ks.take i).filter (fun c => decide (c ≠ id)) ++ (if ks.getD i 0 = id then [] else [ks.getD i 0]) := by
  rw [List.getD_eq_getElem?_getD, List.getElem?_eq_getElem hi, List.take_succ_eq_append_getElem hi, List.filter_append]
  congr 1
  by_cases c : ks[i] = id <;> simp [c]
theorem filter_take_len (ks : List Int) (id : Int) (i : Nat) : ((ks.take i).filter (fun c => decide (c ≠ id))).length ≤ ks.length := Nat.le_trans (List.length_filter_le _ _) (by simp; omega)
set_option maxRecDepth 100000 in
set_option maxHeartbeats 16000000 in
theorem gone_walk (A : Option Addr) (c : Nat) (ps : List Int) (w : World) (ki : Int) (hC : OrdC w A ps) (hwf : ∀ x ∈ ps, 0 ≤ x ∧ x ≤ 255) (hk : 0 ≤ ki ∧ ki ≤ 255) :
    Calls Try.prog 5 #[.slice A ps.length c, .int .u8 ki] w fun e w' => e = .returned (.bool true) ∧ Below w.heap.size w w' := by
  have HC := Aside0.mk hC
  have HWF := Aside0.mk hwf
  obtain ⟨base, hbs⟩ : ∃ b, b = w.heap.size := ⟨_, rfl⟩
  have HBA := Aside0.mk (Nat.le_of_eq hbs)
  have HBE := Aside0.mk hbs
  clear hbs hC hwf
  by_cases hlen : 40 < ps.length
  · have h80 : (40 : Int) < (ps.length : Int) := by omega
    go_enter Try.func5, Try.ntmps5
    go_wp2_with fail
    refine (awake_calls w).mono ?_
    rintro e w1 ⟨rfl, hb1⟩
    have HB1 := Aside0.mk hb1
    clear hb1
    go_wp2_with fail
    go_ret
    exact ⟨rfl, HB1.out⟩
  · have h80 : ¬ (40 : Int) < (ps.length : Int) := by omega
    by_cases hnil : ps.length = 0
    · have hn0 : ((ps.length : Int) == 0) = true := by rw [hnil]; rfl
      go_enter Try.func5, Try.ntmps5
      go_wp2_with fail
      refine (awake_calls w).mono ?_
      rintro e w1 ⟨rfl, hb1⟩
      have HB1 := Aside0.mk hb1
      clear hb1
      go_wp2_with fail
      go_ret
      exact ⟨rfl, HB1.out⟩
    have hn0 : ((ps.length : Int) == 0) = false := by rw [beq_eq_false_iff_ne]; omega
    have hnn : ¬ (ps.length : Int) = 0 := by omega
    go_enter Try.func5, Try.ntmps5
    go_wp2_with fail
    refine (awake_calls w).mono ?_
    rintro e w1 ⟨rfl, hb1⟩
    have HB1 := Aside0.mk hb1
    clear hb1
    go_wp2_with fail
    refine (ps_new w1 base (Nat.le_trans HBA.out HB1.out.size)).mono ?_
    rintro e w2 ⟨g, rfl, hP2, hb2⟩
    have HP2 := Aside0.mk hP2
    have HB2 := Aside0.mk (show Below base w w2 from (HB1.out.mono HBA.out).trans hb2)
    clear hP2 hb2 HB1
    go_wp2_with fail
    go_loopw [7] (fun i wr => ∃ q : Nat, q ≤ ps.length ∧ i = .int .i64 q ∧ Aside0 (PS wr base g (bT ps q) (.slice none 0 0) [] [] []) ∧ Aside0 (Below base w wr)) (fun i _ => ps.length - (intOf i).toNat)
    case atStart => exact ⟨0, Nat.zero_le _, rfl, HP2, HB2⟩
    case round =>
      clear HP2 HB2
      obtain ⟨q, hq, rfl, hP, hB⟩ := hrel
      by_cases hlt : q < ps.length
      · obtain ⟨ad, hA, hcell⟩ := HC.out (by omega)
        subst hA
        have e0 := hcell q hlt
        have hblt := World.block_lt_of_cell? w _ e0
        replace e0 := (hB.out.cell (by rw [HBE.out]; exact hblt)).trans e0
        have hok := HWF.out (ps.getD q 0) (by rw [List.getD_eq_getElem?_getD, List.getElem?_eq_getElem hlt]; exact List.getElem_mem hlt)
        have hin1 : 0 ≤ (q : Int) ∧ (q : Int) < (ps.length : Int) := by omega
        have hin2 : (q : Int) < (ps.length : Int) := by omega
        have HBT := Aside0.mk (bT_add ps q)
        obtain ⟨x, hx⟩ : ∃ x, x = ps.getD q 0 := ⟨_, rfl⟩
        rw [← hx] at e0 hok HBT
        have hmr := mod_range x q
        have htm : Int.tmod x ((q : Int) + 1) = x % ((q : Int) + 1) := Int.tmod_eq_emod_of_nonneg hok.1
        obtain ⟨r, hr⟩ : ∃ r, r = x % ((q : Int) + 1) := ⟨_, rfl⟩
        rw [← hr] at hmr htm HBT
        have HP := hP
        clear hcell hblt hx hr hP
        go_wp2_with fail
        refine (ps_add HP.out (id := (q : Int) + 1) (p := r) (by unfold Tr.u64; omega) (by unfold Tr.u64; omega) (by rw [bT_len]; omega)).mono ?_
        rw [HBT.out.1, HBT.out.2]
        rintro e w3 ⟨rfl, hP3, hb3⟩
        have HP3 := Aside0.mk hP3
        have HB3 := Aside0.mk (hB.out.trans hb3)
        clear hP3 hb3
        go_wp2_with fail
        go_roundw
        case rel => exact ⟨q + 1, by omega, by go_num, HP3, HB3⟩
        case measure => simp [intOf]; omega
      · obtain rfl : q = ps.length := by omega
        have hnq : ¬ (ps.length : Int) < (ps.length : Int) := by omega
        have hps : 1 ≤ ps.length ∧ ps.length ≤ 40 := by omega
        have hmk := Int.emod_nonneg ki (show (ps.length : Int) ≠ 0 by omega)
        have hmk2 := Int.emod_lt_of_pos ki (show (0 : Int) < (ps.length : Int) by omega)
        obtain ⟨id, hid⟩ : ∃ id, id = ki % (ps.length : Int) + 1 := ⟨_, rfl⟩
        have HCV := Aside0.mk (show IntKind.u64.wrap (IntKind.u64.wrap (ki % (ps.length : Int)) + 1) = id by rw [IntWalk.u64_in (ki % (ps.length : Int)) (by omega), IntWalk.u64_in (ki % (ps.length : Int) + 1) (by omega), hid])
        have hid1 : 1 ≤ id ∧ id ≤ (ps.length : Int) := by omega
        clear hid hmk hmk2
        have HIN := Aside0.mk (show id ∈ ids (bT ps ps.length) from mem_bT.2 hid1)
        have HPL := Aside0.mk (bT_par_lt (ps := ps) (k := ps.length) (by omega) hid1.1 hid1.2)
        have HLN := Aside0.mk (bT_len ps ps.length)
        obtain ⟨l, hl⟩ : ∃ l, l = bT ps ps.length := ⟨_, rfl⟩
        rw [← hl] at hP HIN HPL HLN
        clear hl
        have HW := Aside0.mk hP.out.wft
        have HG := Aside0.mk (goneT HW.out HIN.out (by have := HPL.out; omega))
        have HIDU := Aside0.mk (show Tr.u64 id by unfold Tr.u64; omega)
        have HL60 := Aside0.mk (show l.length ≤ 40 by have := HLN.out; omega)
        have HLI := Aside0.mk (show (l.length : Int) = (ps.length : Int) by have := HLN.out; omega)
        go_wp2_with fail
        rw [HCV.out]
        refine (ps_parent hP.out HIDU.out).mono ?_
        obtain ⟨p, hp⟩ : ∃ p, p = par l id := ⟨_, rfl⟩
        rw [← hp] at HPL ⊢
        rintro e w3 ⟨rfl, hw3⟩
        obtain rfl : wr = w3 := hw3.symm
        have HPE := Aside0.mk hp
        have HPU := Aside0.mk (show Tr.u64 p by have := HPL.out; unfold Tr.u64; omega)
        clear hp
        go_wp2_with fail
        obtain ⟨ks, hks⟩ : ∃ ks, ks = kids l p := ⟨_, rfl⟩
        have hk60 : ks.length ≤ 40 := by rw [hks]; exact Nat.le_trans (kids_len _ _) HL60.out
        have HKS := Aside0.mk hks
        clear hks
        refine (ps_children hP.out HPU.out (by have := HL60.out; omega)).mono ?_
        rw [← HKS.out]
        rintro e w4 ⟨u4, rfl, hP4, hb4⟩
        obtain ⟨A4, c4, rfl, _, _⟩ := hP4.row List.mem_cons_self
        have H4 := Aside0.mk hP4
        have B4 := Aside0.mk (hB.out.trans hb4)
        clear hP4 hb4
        go_wp2_with fail
        refine (ps_len H4.out (by have := HL60.out; omega)).mono ?_
        rw [HLI.out]
        rintro e w5 ⟨rfl, hw5⟩
        obtain rfl : w4 = w5 := hw5.symm
        go_wp2_with fail
        obtain ⟨gl, hgl⟩ : ∃ gl, gl = ord l id := ⟨_, rfl⟩
        obtain ⟨l2, hl2⟩ : ∃ l2, l2 = dropT l id := ⟨_, rfl⟩
        have hgn : l2.length + gl.length = ps.length := by have := HG.out.len; have := HLN.out; rw [hgl, hl2]; omega
        have HGE := Aside0.mk hgl
        have HL2 := Aside0.mk hl2
        have HGN := Aside0.mk (show ∀ y ∈ gl, y ∉ ids l2 ∧ y ≠ 0 by rw [hgl, hl2]; exact HG.out.not)
        have HGI := Aside0.mk (show ∀ y ∈ gl, Tr.u64 y by
          rw [hgl]
          intro y hy
          have := ((HW.out.mem_ord_iff HIN.out).1 hy)
          by_cases c : y = id
          · rw [c]; exact HIDU.out
          · exact HW.out.u _ (this.mem c))
        clear hgl hl2
        refine (ps_drop H4.out HIDU.out (by have := HL60.out; omega)).mono ?_
        rw [← HGE.out, ← HL2.out]
        rintro e w6 ⟨u6, rfl, hP6, hb6⟩
        obtain ⟨A6, c6, rfl, _, _⟩ := hP6.row List.mem_cons_self
        have H6 := Aside0.mk hP6
        have B6 := Aside0.mk (B4.out.trans hb6)
        clear hP6 hb6 H4 B4 hP hB
        go_wp2_with fail
        have hgl2 : gl.length ≤ 40 := by omega
        have hl22 : l2.length ≤ 40 := by omega
        have HW2 := Aside0.mk H6.out.wft
        go_loopw [13] (fun i wr => ∃ j : Nat, j ≤ gl.length ∧ i = .int .i64 j ∧ Aside0 (PS wr base g l2 (.slice none 0 0) [] [(.slice A6 gl.length c6, gl), (.slice A4 ks.length c4, ks)] []) ∧ Aside0 (Below base w wr)) (fun i _ => gl.length - (intOf i).toNat)
        case atStart => exact ⟨0, Nat.zero_le _, rfl, H6, B6⟩
        case round =>
          clear H6 B6
          obtain ⟨j, hj, rfl, hP, hB⟩ := hrel
          by_cases hjl : j < gl.length
          · obtain ⟨bk, ck, he, hcx⟩ := ps_at hP.out (.head _) hjl
            injection he with he _ hcc
            subst he hcc
            obtain ⟨x, hx⟩ : ∃ x, x = gl.getD j 0 := ⟨_, rfl⟩
            have hxm : x ∈ gl := by rw [hx, List.getD_eq_getElem?_getD, List.getElem?_eq_getElem hjl]; exact List.getElem_mem hjl
            rw [← hx] at hcx
            clear hx
            have HXU := Aside0.mk (HGI.out x hxm)
            have HXN := Aside0.mk (HGN.out x hxm)
            have hb1 : 0 ≤ (j : Int) ∧ (j : Int) < (gl.length : Int) := by omega
            have hb2 : (j : Int) < (gl.length : Int) := by omega
            have HP := hP
            have HB := hB
            clear hxm hP hB
            go_wp2_with fail
            refine (ps_has HP.out HXU.out).mono ?_
            rw [decide_eq_false (fun h => HXN.out.1 h.2)]
            rintro e w7 ⟨rfl, hw7⟩
            obtain rfl : wr = w7 := hw7.symm
            go_wp2_with fail
            refine (ps_parent HP.out HXU.out).mono ?_
            rw [par_none HXN.out.1]
            rintro e w7 ⟨rfl, hw7⟩
            obtain rfl : wr = w7 := hw7.symm
            go_wp2_with fail
            refine (ps_children HP.out HXU.out (by omega)).mono ?_
            rw [HW2.out.kids_none (x := x) (fun h => by rcases h with h | h; exact HXN.out.2 h; exact HXN.out.1 h)]
            rintro e w8 ⟨u8, rfl, hP8, hb8⟩
            obtain ⟨A8, c8, rfl, _, _⟩ := hP8.row List.mem_cons_self
            have H8 := Aside0.mk (hP8.sub (rows' := [(.slice (some ⟨bk, 0, none⟩) gl.length c6, gl), (.slice A4 ks.length c4, ks)]) (fun q hq => List.mem_cons_of_mem _ hq))
            have B8 := Aside0.mk (HB.out.trans hb8)
            clear hP8 hb8
            go_wp2_with fail
            go_roundw
            case rel => exact ⟨j + 1, by omega, by go_num, H8, B8⟩
            case measure => simp [intOf]; omega
          · obtain rfl : j = gl.length := by omega
            have hjn : ¬ (gl.length : Int) < (gl.length : Int) := by omega
            have HP3 := Aside0.mk (hP.out.nilrow 3 .u64 27 (Nat.le_refl _))
            go_wp2_with fail
            go_loopw [14, 15] (fun vw i wr => ∃ (j : Nat) (A : Option Addr) (c : Nat) (xs : List Int), j ≤ ks.length ∧ i = .int .i64 j ∧ vw = .slice A xs.length c ∧ Aside0 (xs = (ks.take j).filter (fun c => decide (c ≠ id))) ∧ xs.length ≤ 40 ∧ Aside0 (PS wr base g l2 (.slice none 0 0) [] [(.slice A6 gl.length c6, gl), (.slice A4 ks.length c4, ks)] [.row 3 .u64 27 (.slice A xs.length c) xs]) ∧ Aside0 (Below base w wr)) (fun _ i _ => ks.length - (intOf i).toNat)
            case atStart => exact ⟨0, none, 0, [], Nat.zero_le _, rfl, rfl, ⟨rfl⟩, Nat.zero_le _, HP3, hB⟩
            case round =>
              clear HP3 hP hB
              obtain ⟨j, Aw, cw, xs, hj, rfl, rfl, HXS, hxl, HP, HB⟩ := hrel
              by_cases hjl : j < ks.length
              · obtain ⟨bk, ck, he, hcx⟩ := ps_at HP.out (.tail _ (.head _)) hjl
                injection he with he _ hcc
                subst he hcc
                have hfs := filter_step ks id hjl
                have hfl := filter_take_len ks id (j + 1)
                obtain ⟨x, hx⟩ : ∃ x, x = ks.getD j 0 := ⟨_, rfl⟩
                rw [← hx] at hcx hfs
                rw [← HXS.out] at hfs
                have HFS := Aside0.mk hfs
                have HFL := Aside0.mk hfl
                clear hx hfs hfl
                have hb1 : 0 ≤ (j : Int) ∧ (j : Int) < (ks.length : Int) := by omega
                have hb2 : (j : Int) < (ks.length : Int) := by omega
                by_cases hxi : x = id
                · have hxb : (x == id) = true := by rw [beq_iff_eq]; exact hxi
                  have HE := Aside0.mk (show xs = (ks.take (j + 1)).filter (fun c => decide (c ≠ id)) by rw [HFS.out, if_pos hxi, List.append_nil])
                  go_wp2_with fail
                  go_roundw
                  case rel => exact ⟨j + 1, _, _, xs, by omega, by go_num, rfl, HE, hxl, HP, HB⟩
                  case measure => simp [intOf]; omega
                · have hxb : (x == id) = false := by rw [beq_eq_false_iff_ne]; exact hxi
                  have HE := Aside0.mk (show xs ++ [x] = (ks.take (j + 1)).filter (fun c => decide (c ≠ id)) by rw [HFS.out, if_neg hxi])
                  have HXL := Aside0.mk (show (xs ++ [x]).length ≤ 40 by rw [HE.out]; exact Nat.le_trans HFL.out hk60)
                  go_wp2_with (at_builtin; refine ps_push HP.out (fun q hq => by simp at hq) rfl (.tmp 109) (.tmp 114) rfl x (by first | rfl | (go_simp; done) | (simp; done)) (by first | rfl | (go_simp; done) | (simp; done)) (by omega) ?_; intro A9 c9 w9 hP9 hb9; have H9 := Aside0.mk hP9; have B9 := Aside0.mk (HB.out.trans hb9); clear hP9 hb9)
                  go_roundw
                  case rel => exact ⟨j + 1, _, _, xs ++ [x], by omega, by go_num, (by rw [List.length_append]; rfl), HE, HXL.out, H9, B9⟩
                  case measure => simp [intOf]; omega
              · obtain rfl : j = ks.length := by omega
                have hjn : ¬ (ks.length : Int) < (ks.length : Int) := by omega
                have HX2 := Aside0.mk (show xs = (kids l p).filter (fun c => decide (c ≠ id)) by rw [HXS.out, ← HKS.out, List.take_length])
                have hsub : (ps.length : Int) - (gl.length : Int) = (l2.length : Int) := by omega
                have HK2 := Aside0.mk (show kids l2 p = xs by rw [HX2.out, HL2.out, HPE.out]; exact HG.out.kids)
                have HAO := Aside0.mk (show addOk l2 id p = true by rw [HL2.out, HPE.out]; exact HG.out.ok)
                have HK3 := Aside0.mk (show kids (addT l2 id p) p = xs ++ [id] by rw [HX2.out, HL2.out, HPE.out]; exact HG.out.kids3)
                have HK0 := Aside0.mk (show kids (addT l2 id p) id = [] by rw [HL2.out, HPE.out]; exact HG.out.kid0)
                have HIN2 := Aside0.mk (show id ∉ ids l2 by rw [HL2.out]; exact HG.out.idn)
                obtain ⟨l3, hl3⟩ : ∃ l3, l3 = addT l2 id p := ⟨_, rfl⟩
                have HL3 := Aside0.mk (show l3.length ≤ 41 by rw [hl3]; have := addT_len l2 id p; omega)
                have HE3 := Aside0.mk hl3
                rw [← hl3] at HK3 HK0
                clear hl3
                go_wp2_with fail
                refine (ps_len HP.out (by omega)).mono ?_
                rintro e w10 ⟨rfl, hw10⟩
                obtain rfl : wr = w10 := hw10.symm
                go_wp2_with fail
                refine (ps_children HP.out HPU.out (by omega)).mono ?_
                rw [HK2.out]
                rintro e w11 ⟨u11, rfl, hP11, hb11⟩
                obtain ⟨A11, c11, rfl, hC11, hc11⟩ := hP11.row List.mem_cons_self
                obtain ⟨A12, c12, he, hC12, hc12⟩ := hP11.wrow (.head _)
                injection he with he _ hcc
                subst he hcc
                have HS := Aside0.mk (same_c hC11 hc11 hC12 hc12 (by omega))
                have H11 := Aside0.mk hP11
                have B11 := Aside0.mk (HB.out.trans hb11)
                clear hP11 hb11 hC11 hC12 hc11 hc12
                go_wp2_with fail
                refine HS.out.mono ?_
                first | rw [decide_eq_true rfl] | rw [decide_true]
                rintro e w13 ⟨rfl, hb13⟩
                have H13 := Aside0.mk (H11.out.below hb13)
                have B13 := Aside0.mk (B11.out.trans (hb13.mono H11.out.size))
                clear hb13 HS
                go_wp2_with fail
                refine (ps_drop H13.out HIDU.out (by omega)).mono ?_
                rw [ord_none HIN2.out, drop_noop HIN2.out]
                rintro e w14 ⟨u14, rfl, hP14, hb14⟩
                obtain ⟨A14, c14, rfl, _, _⟩ := hP14.row List.mem_cons_self
                have H14 := Aside0.mk hP14
                have B14 := Aside0.mk (B13.out.trans hb14)
                clear hP14 hb14
                go_wp2_with (at_builtin; refine ps_push H14.out (fun q hq => by simp at hq) rfl (.tmp 138) (.tmp 140) rfl id (by first | rfl | (go_simp; done) | (simp; done)) (by first | rfl | (go_simp; done) | (simp; done)) (by omega) ?_; intro A15 c15 w15 hP15 hb15; have H15 := Aside0.mk hP15; have B15 := Aside0.mk (B14.out.trans hb15); clear hP15 hb15)
                refine (ps_add H15.out HIDU.out HPU.out (by omega)).mono ?_
                rw [HAO.out, ← HE3.out]
                rintro e w16 ⟨rfl, hP16, hb16⟩
                have H16 := Aside0.mk hP16
                have B16 := Aside0.mk (B15.out.trans hb16)
                clear hP16 hb16
                go_wp2_with fail
                refine (ps_children H16.out HPU.out (by have := HL3.out; omega)).mono ?_
                rw [HK3.out]
                rintro e w17 ⟨u17, rfl, hP17, hb17⟩
                obtain ⟨A17, c17, rfl, hC17, hc17⟩ := hP17.row List.mem_cons_self
                obtain ⟨A18, c18, he, hC18, hc18⟩ := hP17.wrow (.head _)
                injection he with he _ hcc
                subst he hcc
                have hS := same_c hC17 hc17 hC18 hc18 (by simp; omega)
                rw [show (xs ++ [id]).length = xs.length + 1 by simp] at hS
                have HS := Aside0.mk hS
                clear hS
                have H17 := Aside0.mk hP17
                have B17 := Aside0.mk (B16.out.trans hb17)
                clear hP17 hb17 hC17 hC18 hc17 hc18
                go_wp2_with fail
                refine HS.out.mono ?_
                first | rw [decide_eq_true rfl] | rw [decide_true]
                rintro e w19 ⟨rfl, hb19⟩
                have H19 := Aside0.mk (H17.out.below hb19)
                have B19 := Aside0.mk (B17.out.trans (hb19.mono H17.out.size))
                clear hb19 HS
                go_wp2_with fail
                refine (ps_children H19.out HIDU.out (by have := HL3.out; omega)).mono ?_
                rw [HK0.out]
                rintro e w20 ⟨u20, rfl, hP20, hb20⟩
                obtain ⟨A20, c20, rfl, _, _⟩ := hP20.row List.mem_cons_self
                go_wp2_with fail
                go_ret
                refine ⟨rfl, ?_⟩
                have h10 := B19.out.trans hb20
                rw [HBE.out] at h10
                exact h10
end Go.Proofs.Ytjnpbikalamchaa.Tr
