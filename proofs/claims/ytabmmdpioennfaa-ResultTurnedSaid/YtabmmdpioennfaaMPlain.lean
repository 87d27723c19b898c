/- result.Plain's walk. -/
import Derived.Test.YtabmmdpioennfaaMPlain1
set_option linter.unusedVariables false
set_option linter.unusedSimpArgs false
namespace Go.Proofs.Ytabmmdpioennfaa.Re
open Go.RowKit Go.Maps Go.Proofs.YtabmmdpioennfaaW.PrintWords Go.Proofs.YtabmmdpioennfaaW.PrintLast Go.Proofs.YtabmmdpioennfaaW.PrintMore
attribute [local go_sem] max2_int min2_int
theorem mapBelow {w0 w w1 : World} {b : Nat} (h : Below w0.heap.size w0 w) (ht : w.mapTurned w1 b) (hb : w0.heap.size ≤ b) : Below w0.heap.size w0 w1 :=
  h.grown ht.grown h.size (fun j hj => by injection hj with hj; omega)
set_option maxHeartbeats 4000000 in
set_option maxRecDepth 100000 in
theorem plain_walk (A : Option Addr) (c : Nat) (l : List S43) (w : World) (hC : Kd.C k43 w A l.length l) (hc : l.length ≤ c) (hl : l.length ≤ 1000) (hd : ∀ x ∈ l, x.f2.length ≤ 1000) (hu : ∀ x ∈ l, u64 x.f1) :
    Calls Try.prog 23 #[.slice A l.length c] w fun e w' => ∃ v, e = .returned v ∧ Kd.S k43 43 w' w.heap.size (fun _ => True) v (plainF l) ∧ Below w.heap.size w w' := by
  have hmm := @run_makeMap Try.prog
  have HC := Aside0.mk hC
  have HD := Aside0.mk hd
  have HU := Aside0.mk hu
  clear hC hd hu
  obtain ⟨W1, hrun1, hown1, hturn1⟩ := (World.ownsMap_made (H := Unit) w Try.prog 23 (plainElem Try.prog 23)).store law23 Try.underlying53 (by decide) (kl := .int .u64 0) (keyOf_int_mk Try.underlying23 (by decide)) (plainElem_int Try.underlying23 (a := 0) (by decide))
  have HM1 := Aside0.mk hown1
  have HB1 := Aside0.mk (mapBelow (w0 := w) (below_alloc (Below.refl _ _) _) hturn1 (Nat.le_refl _))
  have HZ1 := Aside0.mk hown1.lt
  clear hown1 hturn1
  go_enter Try.func23, Try.ntmps23
  go_wp2_with ((with_reducible refine gate_dst (N := 13) rfl ?_); refine Kd.S_make k43 (w0 := w) w.heap.size 43 rfl (N := 13) rfl 35 (.tmp 12) (.tmp 12) rfl (l.length : Int) rfl rfl Try.underlying35 _ 48 info43 rfl (by decide) (by decide) z43 (ok := fun j => j ≠ w.heap.size) (okp := fun _ => False) (k43_mkM _ _ _ z43 (Kd.R_nil _ _ _ _ _)) (fun _ h => h.elim) (Nat.ne_of_gt HZ1.out) (by omega) (by omega) HB1.out HB1.out.size ?_; intro v2 W2 hS2 hB2 hg2 hv2; have HS2 := Aside0.mk hS2; have HB2 := Aside0.mk hB2; have HG2 := Aside0.mk hg2; have HV2 := Aside0.mk hv2; clear hS2 hB2 hg2 hv2)
  rw [Int.toNat_natCast] at HS2
  obtain ⟨A2, c2, rfl⟩ := Kd.S_slice HS2.out
  rw [List.length_replicate] at HS2 HV2 ⊢
  obtain ⟨go, rfl, hgo⟩ : ∃ go, A2 = some ⟨go, 0, none⟩ ∧ W1.heap.size ≤ go := by
    obtain ⟨b, hb, hb2⟩ := HV2.out
    cases A2 with
    | none => simp [Value.ownBlock] at hb
    | some ad =>
      obtain ⟨g, rfl⟩ := Kd.R_head (Kd.S_R HS2.out)
      refine ⟨g, rfl, ?_⟩
      have : g = b := by simpa [Value.ownBlock] using hb
      omega
  obtain ⟨gm, hgm⟩ : ∃ gm, gm = w.heap.size := ⟨_, rfl⟩
  rw [← hgm] at HM1 HZ1 ⊢
  have HS3 := Aside0.mk (show Kd.S k43 43 W2 w.heap.size (fun j => j ≠ gm) (.slice (some ⟨go, 0, none⟩) l.length c2) (outAt l 0) by rw [outAt_zero, hgm]; exact HS2.out)
  have hne : go ≠ gm := by have := HZ1.out; omega
  have hgw : w.heap.size ≤ go := by have := HZ1.out; omega
  have hgmw : w.heap.size ≤ gm := by omega
  have HM2 := Aside0.mk (show ∃ D n, W2.ownsMap Try.prog 23 (plainElem Try.prog 23) gm n D ∧ n ≤ 0 + 1 ∧ MapIs D (seenOf (l.take 0)) from ⟨_, _, HM1.out.kept HG2.out (by simp), Nat.le_refl _, MapIs.start⟩)
  clear hgm HS2 HV2 HM1 hrun1 hgo
  go_loopw [16] (fun vi wr => ∃ k : Nat, k ≤ l.length ∧ vi = .int .i64 k ∧ Aside0 (∃ D n, wr.ownsMap Try.prog 23 (plainElem Try.prog 23) gm n D ∧ n ≤ k + 1 ∧ MapIs D (seenOf (l.take k))) ∧ Aside0 (Kd.S k43 43 wr w.heap.size (fun j => j ≠ gm) (.slice (some ⟨go, 0, none⟩) l.length c2) (outAt l k)) ∧ Aside0 (Below w.heap.size w wr)) (fun vi _ => l.length - (intOf vi).toNat)
  case atStart => exact ⟨0, Nat.zero_le _, rfl, HM2, HS3, HB2⟩
  case round =>
    obtain ⟨k, hk, rfl, hM, hS, hB⟩ := hrel
    clear HS3 HM2 HB2 HG2 HB1 HZ1
    by_cases hlt : k < l.length
    · obtain ⟨ad, A0, c0, hA, e0, e1, e2, e3, hc0, hC0⟩ := at_T43 (Kd.C_below HC.out hB.out) (k : Int) (by omega) (by omega)
      subst hA
      have hrd : rd_T43 l (k : Int) = l[k] := by unfold rd_T43; rw [Int.toNat_natCast, List.getD_eq_getElem?_getD, List.getElem?_eq_getElem hlt]; rfl
      rw [hrd] at e0 e1 e2 e3 hc0 hC0
      simp only [Int.toNat_natCast] at e0 e1 e2 e3
      have hxd := HD.out _ (List.getElem_mem hlt)
      have hxu := HU.out _ (List.getElem_mem hlt)
      obtain ⟨x, hx⟩ : ∃ x, x = l[k] := ⟨_, rfl⟩
      rw [← hx] at e0 e1 e2 e3 hc0 hC0 hxd hxu
      have HX := Aside0.mk hx
      have HC0 := Aside0.mk hC0
      have HCC0 := Aside0.mk hc0
      have HXD := Aside0.mk hxd
      have HXU := Aside0.mk hxu
      obtain ⟨D, n, hown, hn, hD⟩ := hM.out
      obtain ⟨sn, hsn⟩ : ∃ sn, sn = seenOf (l.take k) := ⟨_, rfl⟩
      rw [← hsn] at hD
      have HSN := Aside0.mk hsn
      have hsl : sn.length ≤ 1000 := by rw [hsn]; have := seenOf_len (l.take k); rw [List.length_take] at this; omega
      have hin : 0 ≤ (k : Int) ∧ (k : Int) < (l.length : Int) := by omega
      have hin2 : (k : Int) < (l.length : Int) := by omega
      obtain ⟨O, hO⟩ : ∃ O : Obj, O = .cells #[.int .i64 x.f0, .int .u64 x.f1, .slice A0 x.f2.length c0, .int .i64 x.f3] 43 := ⟨_, rfl⟩
      have hlook : (Instr.lookup 53 (.map (some gm)) (.int .u64 x.f1) true).run Try.prog (wr.alloc (.cells #[.int .i64 x.f0, .int .u64 x.f1, .slice A0 x.f2.length c0, .int .i64 x.f3] 43)) = .ok (.tuple #[.int .u64 (if x.f1 = 0 ∨ x.f1 ∈ sn then numOf sn x.f1 else 0), .bool (decide (x.f1 = 0 ∨ x.f1 ∈ sn))]) (wr.alloc (.cells #[.int .i64 x.f0, .int .u64 x.f1, .slice A0 x.f2.length c0, .int .i64 x.f3] 43)) := hD.look (hown.alloc _) HXU.out
      clear hx hC0 hc0 hxd hxu hrd hsn hO O
      obtain ⟨cv, hcv⟩ : ∃ cv, cv = numOf sn x.f1 := ⟨_, rfl⟩
      have HCV := Aside0.mk hcv
      by_cases hh : x.f1 = 0 ∨ x.f1 ∈ sn
      · rw [if_pos hh, decide_eq_true hh, ← hcv] at hlook
        have hadd : seenOf (l.take (k + 1)) = sn := by
          rw [List.take_succ_eq_append_getElem hlt, seenOf_snoc, ← HX.out, ← HSN.out]; unfold addSeen; rw [if_pos hh]
        have HADD := Aside0.mk hadd
        have HH := Aside0.mk hh
        clear hcv hadd hh
        go_wp2
        have HX4 := Aside0.mk (heap_alloc_new wr (.cells #[.int .i64 x.f0, .int .u64 x.f1, .slice A0 x.f2.length c0, .int .i64 x.f3] 43))
        have HS4 := Aside0.mk (Kd.S_alloc hS.out (.cells #[.int .i64 x.f0, .int .u64 x.f1, .slice A0 x.f2.length c0, .int .i64 x.f3] 43))
        have HM4 := Aside0.mk (show ∃ D n, (wr.alloc (.cells #[.int .i64 x.f0, .int .u64 x.f1, .slice A0 x.f2.length c0, .int .i64 x.f3] 43)).ownsMap Try.prog 23 (plainElem Try.prog 23) gm n D ∧ n ≤ k + 1 + 1 ∧ MapIs D (seenOf (l.take (k + 1))) from ⟨D, n, hown.alloc _, by omega, by rw [HADD.out]; exact hD⟩)
        have HB4 := Aside0.mk (below_alloc hB.out (.cells #[.int .i64 x.f0, .int .u64 x.f1, .slice A0 x.f2.length c0, .int .i64 x.f3] 43))
        have HC4 := Aside0.mk (Kd.C_below HC0.out (below_alloc (Below.refl _ _) (.cells #[.int .i64 x.f0, .int .u64 x.f1, .slice A0 x.f2.length c0, .int .i64 x.f3] 43)))
        have HGM4 := Aside0.mk (show gm < (wr.alloc (.cells #[.int .i64 x.f0, .int .u64 x.f1, .slice A0 x.f2.length c0, .int .i64 x.f3] 43)).heap.size by have := hown.lt; simp; omega)
        obtain ⟨rb, hrb⟩ : ∃ rb, rb = wr.heap.size := ⟨_, rfl⟩
        rw [← hrb] at HX4 ⊢
        have HRB := Aside0.mk hrb
        clear hlook hown hD hrb
        generalize wr.alloc (.cells #[.int .i64 x.f0, .int .u64 x.f1, .slice A0 x.f2.length c0, .int .i64 x.f3] 43) = W4 at HX4 HS4 HM4 HB4 HC4 HGM4 ⊢
        have hro : go ≠ rb := by
          intro h
          obtain ⟨cells, hcl⟩ := Kd.S_typed hS.out go (by simp [Value.ownBlock])
          have := (Array.getElem?_eq_some_iff.1 hcl).1
          rw [← HRB.out] at this
          omega
        have q0 : ∀ W, KeepBut W4 W go none → W.cell? ⟨rb, 0, none⟩ = some (.int .i64 x.f0) := fun W h => by have := h.blk HX4.out (Ne.symm hro) (by simp); simp [World.cell?, this]
        have q2 : ∀ W, KeepBut W4 W go none → W.cell? ⟨rb, 2, none⟩ = some (.slice A0 x.f2.length c0) := fun W h => by have := h.blk HX4.out (Ne.symm hro) (by simp); simp [World.cell?, this]
        have q3 : ∀ W, KeepBut W4 W go none → W.cell? ⟨rb, 3, none⟩ = some (.int .i64 x.f3) := fun W h => by have := h.blk HX4.out (Ne.symm hro) (by simp); simp [World.cell?, this]
        have hB00 : Below W4.heap.size W4 W4.drew := below_drew (Below.refl _ _)
        have hK00 : KeepBut W4 W4.drew go none := KeepBut.of_below hB00 go none
        clear e0 e1 e2 e3
        go_region_held3 (fun w' => KeepBut W4 w' go none)
          (first | assumption | exact keep4 hk5 _ _ _ _ _)
          ((go_at_call 30; (with_reducible refine (clone_calls (Kd.C_below HC4.out hB00) HCC0.out (by have := HXD.out; omega)).mono ?_); rintro e w5 ⟨v5, rfl, hR5, hb5⟩; obtain ⟨⟨d0, d1, d2, d3, o0, o1, o2, o3⟩, ⟨f0, f1, f2, f3⟩, hP⟩ := row_store (n := 0) hlt HSN.out hB00 HS4.out hb5 (by rw [← HX.out]; exact hR5) HB4.out.size HGM4.out; obtain ⟨A5, c5, hv5⟩ := Kd.R_slice hR5; subst hv5; rw [← HX.out, ← HCV.out] at hP; have HP5 := Aside0.mk hP; have hk5 := KeepBut.of_below (below_step hB00 hb5) go none; have HB5 := Aside0.mk (below_step HB4.out (below_step hB00 hb5)); have HQ5 := Aside0.mk (show W4.heap[gm]? = w5.heap[gm]? from ((below_step hB00 hb5).block gm HGM4.out).symm); clear hR5 hb5 hP))
        rename_i hHeld
        go_wp2
        go_roundw
        case rel =>
          refine ⟨k + 1, by omega, by go_num, ⟨?_⟩, HP5, ⟨(((HB5.out.setCell (p := ⟨go, _, none⟩) hgw _).setCell (p := ⟨go, _, none⟩) hgw _).setCell (p := ⟨go, _, none⟩) hgw _).setCell (p := ⟨go, _, none⟩) hgw _⟩⟩
          obtain ⟨D4, n4, h4, hn4, hD4⟩ := HM4.out
          refine ⟨D4, n4, ?_, hn4, hD4⟩
          refine World.ownsMap.setCell (World.ownsMap.setCell (World.ownsMap.setCell (World.ownsMap.setCell ?_ (Ne.symm hne) _) (Ne.symm hne) _) (Ne.symm hne) _) (Ne.symm hne) _
          obtain ⟨es, clock, hb, r⟩ := h4
          exact ⟨es, clock, HQ5.out.symm.trans hb, r⟩
        case measure => simp [intOf]; omega
      · have HLK := Aside0.mk hlook
        rw [if_neg hh, decide_eq_false hh] at hlook
        have hh0 : x.f1 ≠ 0 := fun h => hh (.inl h)
        have hh1 : x.f1 ∉ sn := fun h => hh (.inr h)
        have hadd : seenOf (l.take (k + 1)) = sn ++ [x.f1] := by
          rw [List.take_succ_eq_append_getElem hlt, seenOf_snoc, ← HX.out, ← HSN.out]; unfold addSeen; rw [if_neg hh]
        have hcv2 : cv = (sn.length : Int) + 1 := by rw [hcv]; unfold numOf; rw [if_neg hh0, List.idxOf_eq_length hh1]
        have hcvb : 0 ≤ cv ∧ cv < 2000 := by omega
        have HCV2 := Aside0.mk hcv2
        have HADD := Aside0.mk hadd
        have hlen : ∀ ty, (Builtin.len_ #[53] ty #[.map (some gm)]).run Try.prog (wr.alloc (.cells #[.int .i64 x.f0, .int .u64 x.f1, .slice A0 x.f2.length c0, .int .i64 x.f3] 43)) = .ok (.int .i64 cv) (wr.alloc (.cells #[.int .i64 x.f0, .int .u64 x.f1, .slice A0 x.f2.length c0, .int .i64 x.f3] 43)) := fun ty => by
          rw [(hown.alloc _).len Try.underlying53 ty, hD.size, HCV2.out]; rfl
        have hwr : IntKind.u64.wrap cv = cv := by rw [IntKind.wrap_u64]; omega
        obtain ⟨W4, hrun4, hown4, hturn4⟩ := (hown.alloc (.cells #[.int .i64 x.f0, .int .u64 x.f1, .slice A0 x.f2.length c0, .int .i64 x.f3] 43)).store law23 Try.underlying53 (by unfold maxLen; omega) (kl := .int .u64 x.f1) (keyOf_int_mk Try.underlying23 (u64_wf HXU.out)) (plainElem_int Try.underlying23 (a := cv) (u64_wf ⟨by omega, by omega⟩))
        have hbox0 := heap_alloc_new wr (.cells #[.int .i64 x.f0, .int .u64 x.f1, .slice A0 x.f2.length c0, .int .i64 x.f3] 43)
        have hne4 : some wr.heap.size ≠ some gm := by have := hown.lt; intro h; injection h with h; omega
        have HX4 := Aside0.mk ((hturn4.grown.block _ (Array.getElem?_eq_some_iff.1 hbox0).1 hne4).trans hbox0)
        have HS4 := Aside0.mk (Kd.S_step (Kd.S_alloc hS.out (.cells #[.int .i64 x.f0, .int .u64 x.f1, .slice A0 x.f2.length c0, .int .i64 x.f3] 43)) (fun j hj hlt => hturn4.grown.block j hlt (by intro h; injection h with h; exact hj h)))
        have HM4 := Aside0.mk (show ∃ D n, W4.ownsMap Try.prog 23 (plainElem Try.prog 23) gm n D ∧ n ≤ k + 1 + 1 ∧ MapIs D (seenOf (l.take (k + 1))) from ⟨_, _, hown4, by omega, by rw [HADD.out, HCV2.out]; exact hD.step hh0 hh1⟩)
        have HB4 := Aside0.mk (mapBelow (below_alloc hB.out (.cells #[.int .i64 x.f0, .int .u64 x.f1, .slice A0 x.f2.length c0, .int .i64 x.f3] 43)) hturn4 hgmw)
        have HC4 := Aside0.mk (show (Kd.int .u8).C W4 A0 x.f2.length x.f2 from by
          have h1 := HC0.out
          refine ⟨h1.1, h1.2.1, fun h0 => ?_⟩
          obtain ⟨ad4, hA4, hcc4⟩ := h1.2.2 h0
          refine ⟨ad4, hA4, fun j p hj => ?_⟩
          obtain ⟨cc, hcl, hK, hcell⟩ := hcc4 j p hj
          refine ⟨cc, hcl, hK, fun i u hu => ?_⟩
          have hcu := hcell i u hu
          have hcu2 := pw_cell_below (below_alloc (Below.refl _ _) (.cells #[.int .i64 x.f0, .int .u64 x.f1, .slice A0 x.f2.length c0, .int .i64 x.f3] 43)) hcu
          refine hturn4.grown.cell hcu2 ?_
          intro h; injection h with h
          obtain ⟨es, clock, hb, _⟩ := hown
          unfold World.cell? at hcu
          rw [h, hb] at hcu
          cases hcu)
        have HGM4 := Aside0.mk (hown4.lt)
        obtain ⟨rb, hrb⟩ : ∃ rb, rb = wr.heap.size := ⟨_, rfl⟩
        have hbx1 : (wr.alloc (.cells #[.int .i64 x.f0, .int .u64 x.f1, .slice A0 x.f2.length c0, .int .i64 x.f3] 43)).cell? ⟨wr.heap.size, 1, none⟩ = some (.int .u64 x.f1) := by unfold World.cell?; rw [hbox0]; rfl
        have HRB := Aside0.mk hrb
        clear hown hD hrb hadd hcv hcv2 hown4 hturn4 hbox0 hne4 HLK hh0 hh1 hh
        go_wp2
        rw [← HRB.out] at HX4 ⊢
        clear hlook hlen hrun4 hbx1
        have hro : go ≠ rb := by
          intro h
          obtain ⟨cells, hcl⟩ := Kd.S_typed hS.out go (by simp [Value.ownBlock])
          have := (Array.getElem?_eq_some_iff.1 hcl).1
          rw [← HRB.out] at this
          omega
        have q0 : ∀ W, KeepBut W4 W go none → W.cell? ⟨rb, 0, none⟩ = some (.int .i64 x.f0) := fun W h => by have := h.blk HX4.out (Ne.symm hro) (by simp); simp [World.cell?, this]
        have q2 : ∀ W, KeepBut W4 W go none → W.cell? ⟨rb, 2, none⟩ = some (.slice A0 x.f2.length c0) := fun W h => by have := h.blk HX4.out (Ne.symm hro) (by simp); simp [World.cell?, this]
        have q3 : ∀ W, KeepBut W4 W go none → W.cell? ⟨rb, 3, none⟩ = some (.int .i64 x.f3) := fun W h => by have := h.blk HX4.out (Ne.symm hro) (by simp); simp [World.cell?, this]
        have hB00 : Below W4.heap.size W4 W4.drew := below_drew (Below.refl _ _)
        have hK00 : KeepBut W4 W4.drew go none := KeepBut.of_below hB00 go none
        clear e0 e1 e2 e3
        go_region_held3 (fun w' => KeepBut W4 w' go none)
          (first | assumption | exact keep4 hk5 _ _ _ _ _)
          ((go_at_call 30; (with_reducible refine (clone_calls (Kd.C_below HC4.out hB00) HCC0.out (by have := HXD.out; omega)).mono ?_); rintro e w5 ⟨v5, rfl, hR5, hb5⟩; obtain ⟨⟨d0, d1, d2, d3, o0, o1, o2, o3⟩, ⟨f0, f1, f2, f3⟩, hP⟩ := row_store (n := 0) hlt HSN.out hB00 HS4.out hb5 (by rw [← HX.out]; exact hR5) HB4.out.size HGM4.out; obtain ⟨A5, c5, hv5⟩ := Kd.R_slice hR5; subst hv5; rw [← HX.out, ← HCV.out] at hP; have HP5 := Aside0.mk hP; have hk5 := KeepBut.of_below (below_step hB00 hb5) go none; have HB5 := Aside0.mk (below_step HB4.out (below_step hB00 hb5)); have HQ5 := Aside0.mk (show W4.heap[gm]? = w5.heap[gm]? from ((below_step hB00 hb5).block gm HGM4.out).symm); clear hR5 hb5 hP))
        rename_i hHeld
        go_wp2
        go_roundw
        case rel =>
          refine ⟨k + 1, by omega, by go_num, ⟨?_⟩, HP5, ⟨(((HB5.out.setCell (p := ⟨go, _, none⟩) hgw _).setCell (p := ⟨go, _, none⟩) hgw _).setCell (p := ⟨go, _, none⟩) hgw _).setCell (p := ⟨go, _, none⟩) hgw _⟩⟩
          obtain ⟨D4, n4, h4, hn4, hD4⟩ := HM4.out
          refine ⟨D4, n4, ?_, hn4, hD4⟩
          refine World.ownsMap.setCell (World.ownsMap.setCell (World.ownsMap.setCell (World.ownsMap.setCell ?_ (Ne.symm hne) _) (Ne.symm hne) _) (Ne.symm hne) _) (Ne.symm hne) _
          obtain ⟨es, clock, hb, r⟩ := h4
          exact ⟨es, clock, HQ5.out.symm.trans hb, r⟩
        case measure => simp [intOf]; omega
    · have hke : k = l.length := by omega
      have HE := Aside0.mk hke
      have hge : ¬ (k : Int) < (l.length : Int) := by omega
      clear hke
      go_wp2
      go_ret
      refine ⟨_, rfl, ?_, hB.out⟩
      have := hS.out
      rw [HE.out, outAt_end] at this
      exact Kd.S_mono this (fun _ _ => trivial)
end Go.Proofs.Ytabmmdpioennfaa.Re
