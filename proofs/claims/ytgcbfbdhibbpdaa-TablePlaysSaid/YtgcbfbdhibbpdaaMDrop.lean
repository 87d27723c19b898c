/- A table's methods Drop, Get, Set where the handle is live. -/
import Derived.Test.YtgcbfbdhibbpdaaMRows
set_option linter.unusedVariables false
set_option linter.unusedSimpArgs false
namespace Go.Proofs.Ytgcbfbdhibbpdaa.Tb
open Go.RowKit Go.Proofs.YtgcbfbdhibbpdaaW.PrintWords Go.Proofs.YtgcbfbdhibbpdaaW.PrintLast Go.Proofs.YtgcbfbdhibbpdaaW.PrintMore
attribute [local go_sem] max2_int min2_int
theorem TB.parts {w : World} {base : Nat} {ok : Nat → Prop} {g : Nat} {kd : Int} {sl : List S76} {fr : List Int} {vs vf : Value} (h : TB w base ok g kd sl fr) (hb : w.heap[g]? = some (.cells #[.int .i64 kd, vs, vf] 74 (0, 0))) : (ok g ∧ base ≤ g) ∧ k76.R 76 w base ok vs sl ∧ (Kd.int .i64).R 3 w base ok vf fr := by
  obtain ⟨h0, vs2, vf2, hb2, hR, hF⟩ := h
  rw [hb] at hb2
  obtain ⟨e1, e2⟩ : vs = vs2 ∧ vf = vf2 := by
    simp only [Option.some.injEq, Obj.cells.injEq] at hb2
    have := hb2.1
    simp only [Array.mk.injEq, List.cons.injEq] at this
    exact ⟨this.2.1, this.2.2.1⟩
  subst e1 e2
  exact ⟨h0, hR, hF⟩
theorem blk3_f {w : World} {g : Nat} {x y z : Value} {t : Nat} (h : w.heap[g]? = some (.cells #[x, y, z] t (0, 0))) (j : Nat) : w.frozen? ⟨g, j, none⟩ = false := by simp [World.frozen?, h]
set_option maxRecDepth 4000 in
set_option maxHeartbeats 2000000 in
theorem drop_yes {w : World} {base : Nat} {ok : Nat → Prop} {g : Nat} {kd : Int} {sl : List S76} {fr : List Int} (h : TB w base ok g kd sl fr) (hd : Int) (hu : hd < 18446744073709551616) {i : Nat} (hl : LiveAt kd sl hd i) (hbase : base ≤ w.heap.size) (hfresh : ∀ k, w.heap.size ≤ k → ok k) (hgn : 0 ≤ (sl.getD i z76).f2 ∧ (sl.getD i z76).f2 < 1073741824) (hfl : fr.length ≤ 1000) :
    Calls Try.prog 11 #[.pointer (some ⟨g, 0, none⟩), .int .u64 hd] w fun e w' => e = .returned (.bool true) ∧ TB w' base ok g kd (sl.set i ⟨0, false, nx (sl.getD i z76).f2⟩) (fr ++ [(i : Int)]) ∧ Fr base ok w w' := by
  have hT := h
  obtain ⟨_, vs, vf, hb, hR, hF⟩ := h
  obtain ⟨A2, c2, rfl⟩ := Kd.R_slice hF
  clear hF
  obtain ⟨sb, c, rfl, hbb, ho, hc, e0, e1, e2, hf⟩ := k76_at hR hl.lt
  rw [hl.used] at e1
  have HL := Aside0.mk (live_some hT hd hu hl hb e1 e2)
  have hnx := next_is (sl.getD i z76).f2 (by omega)
  have hlt := hl.lt
  have f0 := hf 0
  have f1 := hf 1
  have f2 := hf 2
  rw [Nat.add_zero] at f0
  have hat := Aside0.mk hl.at_
  have hlo := hl.lo
  obtain ⟨x, hx⟩ : ∃ x, x = (sl.getD i z76).f0 := ⟨_, rfl⟩
  obtain ⟨gn, hg⟩ : ∃ gn, gn = (sl.getD i z76).f2 := ⟨_, rfl⟩
  rw [← hx] at e0
  rw [← hg] at e2 hnx ⊢
  obtain ⟨n, hn⟩ : ∃ n, n = nx gn := ⟨_, rfl⟩
  rw [← hn] at hnx ⊢
  have HT := Aside0.mk hT
  have HB := Aside0.mk hb
  have HLT := Aside0.mk hlt
  have HLO := Aside0.mk hlo
  have HNX := Aside0.mk hnx
  have HFL := Aside0.mk hfl
  clear hT hb hR hc hf hl hg hx hn hlt hlo hgn hnx hfl
  obtain ⟨q, hq⟩ : ∃ q, q = hd / 4611686018427387904 := ⟨_, rfl⟩
  obtain ⟨r, hr⟩ : ∃ r, r = hd / 4294967296 % 1073741824 := ⟨_, rfl⟩
  have HQ := Aside0.mk hq
  have HR := Aside0.mk hr
  clear hq hr
  go_enter Try.func11, Try.ntmps11
  go_wp2_with fail
  refine HL.out.mono ?_
  rintro e w1 ⟨rfl, hb1⟩
  have HB1 := Aside0.mk hb1
  clear hb1
  go_wp2_with fail
  refine (unpack_yes hd w1 HLO.out hu).mono ?_
  rw [hat.out, ← HQ.out, ← HR.out]
  rintro e w2 ⟨rfl, hb2⟩
  have HB2 := Aside0.mk (HB1.out.trans (hb2.mono HB1.out.size))
  clear hb2
  have e2' := pw_cell_below HB2.out e2
  go_wp2_with fail
  refine (handle_Next.calls gn n w2 HNX.out).mono ?_
  rintro e w3 ⟨rfl, hd3⟩
  have hb3 := HB2.out.trans ((hd3.below).mono HB2.out.size)
  have HB3 := Aside0.mk hb3
  replace f0 : w3.frozen? ⟨sb, i * 3, none⟩ = false := (hb3.frozen (World.block_lt_of_cell? w _ e0)).trans f0
  replace f1 : w3.frozen? ⟨sb, i * 3 + 1, none⟩ = false := (hb3.frozen (World.block_lt_of_cell? w _ e1)).trans f1
  replace f2 : w3.frozen? ⟨sb, i * 3 + 2, none⟩ = false := (hb3.frozen (World.block_lt_of_cell? w _ e2)).trans f2
  replace e0 := pw_cell_below hb3 e0
  replace e1 := pw_cell_below hb3 e1
  replace e2 := pw_cell_below hb3 e2
  have HP := Aside0.mk (slot_drop (HT.out.below hb3) (by rw [hb3.block _ HT.out.lt]; exact HB.out) HLT.out ⟨0, false, n⟩)
  have g2 := blk3_2 HP.out.2.2
  dsimp only at g2
  clear hb3 hd3 e2'
  have HBB := Aside0.mk ((HB3.out.mono hbase).trans HP.out.2.1.b)
  have HPP := Aside0.mk (HP.out.1.parts HP.out.2.2)
  go_wp2_with (at_builtin; refine Kd.R_append (Kd.int .i64) (w0 := w) base rfl _ _ 29 3 _ 8 rfl Try.underlying29 info3 rfl (show 0 < 1 by decide) (by decide) (.slice A2 fr.length c2) fr (i : Int) [.int .i64 i] ok (fun _ => False) rfl (by first | rfl | (go_simp; done) | (simp; done)) rfl (fun _ h => h.elim) (fun k hk => hfresh k (Nat.le_trans HBB.out.size hk)) HPP.out.2.2 HBB.out (Nat.le_trans hbase HBB.out.size) (by have := HFL.out; omega) ?_; intro v1 w5 hR5 hb5 hg5 hat5; obtain ⟨A3, c3, rfl⟩ := Kd.R_slice hR5; have hb6 := block_apart HP.out.2.2 HPP.out.2.2 (by decide) hg5; have g6 := blk3_2 hb6; have f6 := blk3_f hb6 2; have HE := Aside0.mk (TB.free_new HPP.out.1 HP.out.2.2 HPP.out.2.1 HPP.out.2.2 hg5 hR5); clear hb6 hg5 hR5 hb5 hat5)
  go_ret
  have hE := HE.out
  rw [show (fr ++ [(i : Int)]).length = fr.length + 1 from by simp] at hE
  exact ⟨rfl, hE.1, ((Fr.of_below HB3.out hbase).trans HP.out.2.1).trans hE.2⟩
/-! ### Get, Set -/
set_option maxHeartbeats 1000000 in
theorem get_yes {w : World} {base : Nat} {ok : Nat → Prop} {g : Nat} {kd : Int} {sl : List S76} {fr : List Int} (h : TB w base ok g kd sl fr) (hd : Int) (hu : hd < 18446744073709551616) {i : Nat} (hl : LiveAt kd sl hd i) :
    Calls Try.prog 21 #[.pointer (some ⟨g, 0, none⟩), .int .u64 hd] w fun e w' => e = .returned (.tuple #[.int .i64 (sl.getD i z76).f0, .bool true]) ∧ Below w.heap.size w w' := by
  have hT := h
  obtain ⟨_, vs, vf, hb, hR, _⟩ := h
  obtain ⟨sb, c, rfl, hbb, ho, hc, e0, e1, e2, hf⟩ := k76_at hR hl.lt
  rw [hl.used] at e1
  have HL := Aside0.mk (live_some hT hd hu hl hb e1 e2)
  obtain ⟨x, hx⟩ : ∃ x, x = (sl.getD i z76).f0 := ⟨_, rfl⟩
  rw [← hx] at e0 ⊢
  clear hT hb hR hc e1 e2 hf hl hx
  go_enter Try.func21, Try.ntmps21
  go_wp2_with fail
  refine HL.out.mono ?_
  rintro e w1 ⟨rfl, hb1⟩
  replace e0 := pw_cell_below hb1 e0
  go_wp2
  exact bodyPost_ret (v := .tuple #[.int .i64 x, .bool true]) (by simp [results, Try.results21, go_sem]) rfl ⟨rfl, hb1⟩
/-- A slot's number is written. -/
theorem slot_put {w : World} {base : Nat} {ok : Nat → Prop} {g : Nat} {kd : Int} {sl : List S76} {fr : List Int} {sb c : Nat} {vf : Value} (h : TB w base ok g kd sl fr) (hb : w.heap[g]? = some (.cells #[.int .i64 kd, .slice (some ⟨sb, 0, none⟩) sl.length c, vf] 74 (0, 0))) {i : Nat} (hi : i < sl.length) (v : Int) :
    TB (w.setCell ⟨sb, i * 3, none⟩ (.int .i64 v)) base ok g kd (sl.set i ⟨v, (sl.getD i z76).f1, (sl.getD i z76).f2⟩) fr ∧ Fr base ok w (w.setCell ⟨sb, i * 3, none⟩ (.int .i64 v)) := by
  obtain ⟨h0, vs, vf2, hb2, hR, hF⟩ := h
  rw [hb] at hb2
  obtain ⟨rfl, e3'⟩ : vs = .slice (some ⟨sb, 0, none⟩) sl.length c ∧ vf = vf2 := by
    simp only [Option.some.injEq, Obj.cells.injEq] at hb2
    have := hb2.1
    simp only [Array.mk.injEq, List.cons.injEq] at this
    exact ⟨this.2.1.symm, this.2.2.1⟩
  subst e3'
  obtain ⟨sb', c', he, hbb, ho, hc, e0, e1, e2, hf⟩ := k76_at hR hi
  obtain ⟨e1', e2'⟩ : sb = sb' ∧ c = c' := by
    simp only [Value.slice.injEq, Option.some.injEq, Addr.mk.injEq] at he
    exact ⟨he.1.1, he.2.2⟩
  subst e1' e2'
  clear e0 e1 e2 hf
  obtain ⟨cs, hcl, hM, hcc, hfr⟩ := Kd.R_elem hR z76 (i : Int) (by omega) (by omega)
  have hMM : (i : Int).toNat * k76.sz = i * 3 := by rw [Int.toNat_natCast]; rfl
  have hcs := k76_openM hM
  rw [Int.toNat_natCast] at hcs
  subst hcs
  have hs := Kd.R_seg hR (i : Int) (by omega) (by omega) (seg := [.int .i64 v]) (j := 0) (x' := (⟨v, (sl.getD i z76).f1, (sl.getD i z76).f2⟩ : S76)) (okp := fun _ => False) hcl hcc (show 0 + 1 ≤ 3 by decide) (k76_mkM w base _ ⟨v, (sl.getD i z76).f1, (sl.getD i z76).f2⟩) (fun _ h => h.elim)
  rw [hMM, Int.toNat_natCast] at hs
  have hsw : w.setCells sb (i * 3 + 0) [.int .i64 v] = w.setCell ⟨sb, i * 3, none⟩ (.int .i64 v) := rfl
  rw [hsw] at hs
  have hgs : g ≠ sb := by
    intro e
    obtain ⟨cells, hc⟩ := hc
    rw [← e, hb] at hc
    simp at hc
  have hk : ∀ k, k ≠ sb → (w.setCell ⟨sb, i * 3, none⟩ (.int .i64 v)).heap[k]? = w.heap[k]? := fun k hk => Below.heap_setCell _ _ _ _ hk
  have hlen : (sl.set i (⟨v, (sl.getD i z76).f1, (sl.getD i z76).f2⟩ : S76)).length = sl.length := by simp
  refine ⟨⟨h0, .slice (some ⟨sb, 0, none⟩) sl.length c, vf, (hk g hgs).trans hb, hs.1, ?_⟩, (Fr.refl base ok w).set hbb ho _ _⟩
  obtain ⟨cells, hc⟩ := hc
  exact Kd.R_mono (Kd.R_step (Kd.R_types hF hc (by decide)) (fun k hk2 _ => hk k hk2.2)) (fun k hk => hk.1)
set_option maxHeartbeats 1000000 in
theorem set_yes {w : World} {base : Nat} {ok : Nat → Prop} {g : Nat} {kd : Int} {sl : List S76} {fr : List Int} (h : TB w base ok g kd sl fr) (hd v : Int) (hu : hd < 18446744073709551616) {i : Nat} (hl : LiveAt kd sl hd i) (hbase : base ≤ w.heap.size) :
    Calls Try.prog 22 #[.pointer (some ⟨g, 0, none⟩), .int .u64 hd, .int .i64 v] w fun e w' => e = .returned (.bool true) ∧ TB w' base ok g kd (sl.set i ⟨v, (sl.getD i z76).f1, (sl.getD i z76).f2⟩) fr ∧ Fr base ok w w' := by
  have hT := h
  obtain ⟨_, vs, vf, hb, hR, _⟩ := h
  obtain ⟨sb, c, rfl, hbb, ho, hc, e0, e1, e2, hf⟩ := k76_at hR hl.lt
  rw [hl.used] at e1
  have HL := Aside0.mk (live_some hT hd hu hl hb e1 e2)
  obtain ⟨cells, hc⟩ := hc
  have hlt := hl.lt
  have f0 := hf 0
  rw [Nat.add_zero] at f0
  obtain ⟨x, hx⟩ : ∃ x, x = (sl.getD i z76).f0 := ⟨_, rfl⟩
  rw [← hx] at e0
  have HT := Aside0.mk hT
  have HP := fun w1 (hb1 : Below w.heap.size w w1) => slot_put (hT.below hb1) (by rw [hb1.block _ hT.lt]; exact hb) hlt v
  have HPA := Aside0.mk HP
  clear hT hb hR hc e1 e2 hf hl hx HP hlt
  go_enter Try.func22, Try.ntmps22
  go_wp2_with fail
  refine HL.out.mono ?_
  rintro e w1 ⟨rfl, hb1⟩
  replace f0 : w1.frozen? ⟨sb, i * 3, none⟩ = false := (hb1.frozen (World.block_lt_of_cell? w _ e0)).trans f0
  replace e0 := pw_cell_below hb1 e0
  have HB1 := Aside0.mk hb1
  clear hb1
  go_wp2
  go_ret
  refine ⟨rfl, (HPA.out w1 HB1.out).1, (Fr.of_below HB1.out hbase).trans (HPA.out w1 HB1.out).2⟩
end Go.Proofs.Ytgcbfbdhibbpdaa.Tb
