/- A table's method Add, where a slot is free. -/
import Derived.Test.YtgcbfbdhibbpdaaMDrop
set_option linter.unusedVariables false
set_option linter.unusedSimpArgs false
namespace Go.Proofs.Ytgcbfbdhibbpdaa.Tb
open Go.RowKit Go.Proofs.YtgcbfbdhibbpdaaW.PrintWords Go.Proofs.YtgcbfbdhibbpdaaW.PrintLast Go.Proofs.YtgcbfbdhibbpdaaW.PrintMore
attribute [local go_sem] max2_int min2_int
theorem grown_refl (w : World) (row : Option Nat) : w.grownBy w row := ⟨rfl, rfl, rfl, Nat.le_refl _, fun _ _ _ => rfl⟩
theorem slot_add {w : World} {base : Nat} {ok : Nat → Prop} {g : Nat} {kd : Int} {sl : List S76} {fr : List Int} {sb c : Nat} {vf : Value} (h : TB w base ok g kd sl fr) (hb : w.heap[g]? = some (.cells #[.int .i64 kd, .slice (some ⟨sb, 0, none⟩) sl.length c, vf] 74 (0, 0))) {i : Nat} (hi : i < sl.length) (v : Int) :
    TB ((w.setCell ⟨sb, i * 3, none⟩ (.int .i64 v)).setCell ⟨sb, i * 3 + 1, none⟩ (.bool true)) base ok g kd (sl.set i ⟨v, true, (sl.getD i z76).f2⟩) fr ∧ Fr base ok w ((w.setCell ⟨sb, i * 3, none⟩ (.int .i64 v)).setCell ⟨sb, i * 3 + 1, none⟩ (.bool true)) ∧ ((w.setCell ⟨sb, i * 3, none⟩ (.int .i64 v)).setCell ⟨sb, i * 3 + 1, none⟩ (.bool true)).heap[g]? = some (.cells #[.int .i64 kd, .slice (some ⟨sb, 0, none⟩) sl.length c, vf] 74 (0, 0)) := by
  obtain ⟨h0, vs, vf2, hb2, hR, hF⟩ := h
  rw [hb] at hb2
  obtain ⟨rfl, e3'⟩ : vs = .slice (some ⟨sb, 0, none⟩) sl.length c ∧ vf = vf2 := by
    simp only [Option.some.injEq, Obj.cells.injEq] at hb2
    have := hb2.1
    simp only [Array.mk.injEq, List.cons.injEq] at this
    exact ⟨this.2.1.symm, this.2.2.1⟩
  subst e3'
  obtain ⟨sb', c', he, hbb, ho, hc, e0, e1, e2, hf⟩ := k76_at hR hi
  obtain ⟨e1', e2'⟩ : sb = sb' ∧ c = c' := by
    simp only [Value.slice.injEq, Option.some.injEq, Addr.mk.injEq] at he
    exact ⟨he.1.1, he.2.2⟩
  subst e1' e2'
  clear e0 e1 e2 hf
  obtain ⟨cs, hcl, hM, hcc, hfr⟩ := Kd.R_elem hR z76 (i : Int) (by omega) (by omega)
  have hMM : (i : Int).toNat * k76.sz = i * 3 := by rw [Int.toNat_natCast]; rfl
  have hcs := k76_openM hM
  rw [Int.toNat_natCast] at hcs
  subst hcs
  have hs := Kd.R_seg hR (i : Int) (by omega) (by omega) (seg := [.int .i64 v, .bool true]) (j := 0) (x' := (⟨v, true, (sl.getD i z76).f2⟩ : S76)) (okp := fun _ => False) hcl hcc (show 0 + 2 ≤ 3 by decide) (k76_mkM w base _ ⟨v, true, (sl.getD i z76).f2⟩) (fun _ h => h.elim)
  rw [hMM, Int.toNat_natCast] at hs
  have hsw : w.setCells sb (i * 3 + 0) [.int .i64 v, .bool true] = ((w.setCell ⟨sb, i * 3, none⟩ (.int .i64 v)).setCell ⟨sb, i * 3 + 1, none⟩ (.bool true)) := rfl
  rw [hsw] at hs
  have hgs : g ≠ sb := by
    intro e
    obtain ⟨cells, hc⟩ := hc
    rw [← e, hb] at hc
    simp at hc
  have hk : ∀ k, k ≠ sb → ((w.setCell ⟨sb, i * 3, none⟩ (.int .i64 v)).setCell ⟨sb, i * 3 + 1, none⟩ (.bool true)).heap[k]? = w.heap[k]? := fun k hk => (Below.heap_setCell _ _ _ _ hk).trans (Below.heap_setCell _ _ _ _ hk)
  have hlen : (sl.set i ⟨v, true, (sl.getD i z76).f2⟩).length = sl.length := by simp
  have hgb := (hk g hgs).trans hb
  refine ⟨⟨h0, .slice (some ⟨sb, 0, none⟩) sl.length c, vf, hgb, hs.1, ?_⟩, ((Fr.refl base ok w).set hbb ho _ _).set hbb ho _ _, hgb⟩
  obtain ⟨cells, hc⟩ := hc
  exact Kd.R_mono (Kd.R_step (Kd.R_types hF hc (by decide)) (fun k hk2 _ => hk k hk2.2)) (fun k hk => hk.1)
set_option maxRecDepth 4000 in
set_option maxHeartbeats 600000 in
theorem add_old {w : World} {base : Nat} {ok : Nat → Prop} {g : Nat} {kd : Int} {sl : List S76} {f : List Int} {i : Nat} (h : TB w base ok g kd sl (f ++ [(i : Int)])) (v : Int) (hk : 1 ≤ kd ∧ kd ≤ 3) (hi : i < sl.length) (hbase : base ≤ w.heap.size) (hgn : 0 ≤ (sl.getD i z76).f2 ∧ (sl.getD i z76).f2 < 1073741824) (hfl : f.length ≤ 1000) :
    Calls Try.prog 10 #[.pointer (some ⟨g, 0, none⟩), .int .i64 v] w fun e w' => e = .returned (.int .u64 (pk kd i (sl.getD i z76).f2)) ∧ TB w' base ok g kd (sl.set i ⟨v, true, (sl.getD i z76).f2⟩) f ∧ Fr base ok w w' := by
  have hT := h
  obtain ⟨_, vs, vf, hb, hR, hF⟩ := h
  obtain ⟨A2, c2, rfl⟩ := Kd.R_slice hF
  have hlen : (f ++ [(i : Int)]).length = f.length + 1 := by simp
  rw [hlen] at hb hF
  obtain ⟨fb, fc, hfe, hfb, hflt, fcells⟩ := Kd.R_form hF (by omega)
  obtain ⟨fcs, hfcl, hfM, hfcc, hffr⟩ := Kd.R_elem (by rw [hfe] at hF; exact hF) (0 : Int) (f.length : Int) (by omega) (by omega)
  have hfv : fcs = [.int .i64 (i : Int)] := by
    have e : fcs = [.int .i64 ((f ++ [(i : Int)]).getD (f.length : Int).toNat 0)] := hfM
    rw [e, Int.toNat_natCast]
    simp
  subst hfv
  have e3 := hfcc 0 _ rfl
  have hmm : (f.length : Int).toNat * (Kd.int .i64).sz + 0 = f.length := by rw [Int.toNat_natCast]; show f.length * 1 + 0 = f.length; omega
  rw [hmm] at e3
  obtain ⟨sb, c, rfl, hbb, ho, hc, e0, e1, e2, hf⟩ := k76_at hR hi
  have f0 := hf 0
  have f1 := hf 1
  rw [Nat.add_zero] at f0
  have hsl := hT.lt
  have hlenS : sl.length ≤ 9223372036854775807 := (Kd.R_reads hR).choose_spec.choose_spec.2.2.2.1
  have hin1 : 0 ≤ (i : Int) ∧ (i : Int) < (sl.length : Int) := by omega
  have hin2 : (i : Int) < (sl.length : Int) := by omega
  have hp0 : handle_Pack.f kd 0 0 = some (pk kd 0 0) := pack_is kd 0 0 (by omega) (by omega) (by omega)
  have hp1 : ¬ pk kd 0 0 = 0 := by unfold pk; rw [if_pos (by omega)]; omega
  obtain ⟨p, hp⟩ : ∃ p, p = pk kd 0 0 := ⟨_, rfl⟩
  rw [← hp] at hp0 hp1
  have hp2 : (p == 0) = false := by simpa using hp1
  have g0 := blk3_0 hb
  have g1 := blk3_1 hb
  have g2 := blk3_2 hb
  have gf := blk3_f hb 2
  injection hfe with hfe1 hfe2 hfe3
  subst hfe1
  clear hfe2 hfe3 hmm
  have hfI : (f.length : Int) ≤ 1000 := by omega
  have hcap : f.length + 1 ≤ c2 := (Kd.R_reads' hF).2.1
  obtain ⟨ii, hii, hz0, hz1, hz2⟩ := info_parts info3
  have hcut : ∀ W : World, (Instr.slice 29 (.slice (some ⟨fb, 0, none⟩) (f.length + 1) c2) none (some (.int .i64 (f.length : Int))) none).run Try.prog W = .ok (.slice (some ⟨fb, 0, none⟩) f.length c2) W := by
    have := cut_to (P := Try.prog) 29 3 .i64 Try.underlying29 hii (some ⟨fb, 0, none⟩) (f.length + 1) c2 (f.length : Int) (by omega) (by omega) hcap
    simpa only [Int.toNat_natCast] using this
  clear hcap hii hz0 hz1 hz2
  have HT := Aside0.mk hT
  have HB := Aside0.mk hb
  have HR := Aside0.mk hR
  have HF := Aside0.mk hF
  have HP0 := Aside0.mk hp0
  have HK := Aside0.mk hk
  have HGN := Aside0.mk hgn
  clear hT hb hR hF hfcc hfM hffr hfcl hlen hp hp0 hc hf hk hgn
  go_enter Try.func10, Try.ntmps10
  go_wp2_with fail
  refine (handle_Pack.calls kd 0 0 p w HP0.out).mono ?_
  rintro e w1 ⟨rfl, hd1⟩
  have hb1 := hd1.below
  have HB1 := Aside0.mk hb1
  replace f0 : w1.frozen? ⟨sb, i * 3, none⟩ = false := (hb1.frozen (World.block_lt_of_cell? w _ e0)).trans f0
  replace f1 : w1.frozen? ⟨sb, i * 3 + 1, none⟩ = false := (hb1.frozen (World.block_lt_of_cell? w _ e1)).trans f1
  replace gf : w1.frozen? ⟨g, 2, none⟩ = false := (hb1.frozen (World.block_lt_of_cell? w _ g2)).trans gf
  replace g0 := pw_cell_below hb1 g0
  replace g1 := pw_cell_below hb1 g1
  replace g2 := pw_cell_below hb1 g2
  replace e0 := pw_cell_below hb1 e0
  replace e1 := pw_cell_below hb1 e1
  replace e2 := pw_cell_below hb1 e2
  replace e3 := pw_cell_below hb1 e3
  have hbw := Aside0.mk ((hb1.block _ HT.out.lt).trans HB.out)
  have HPW := Aside0.mk ((HT.out.below hb1).parts hbw.out)
  have HN := Aside0.mk (TB.free_new HPW.out.1 hbw.out HPW.out.2.1 HPW.out.2.2 (grown_refl w1 _) (Kd.R_take (m := f.length) HPW.out.2.2 (by simp)))
  clear hb1 hd1
  go_wp2_with fail
  obtain ⟨W1, hW1⟩ : ∃ W, W = w1.setCell ⟨g, 2, none⟩ (.slice (some ⟨fb, 0, none⟩) f.length c2) := ⟨_, rfl⟩
  rw [← hW1]
  have HN2 := HN.out
  rw [List.take_left' rfl, ← hW1] at HN2
  have hbW : W1.heap[g]? = some (.cells #[.int .i64 kd, .slice (some ⟨sb, 0, none⟩) sl.length c, .slice (some ⟨fb, 0, none⟩) f.length c2] 74 (0, 0)) := by rw [hW1]; exact set3_2 hbw.out
  have HBW := Aside0.mk hbW
  obtain ⟨sb2, cc, he, _, _, _, e0', e1', _, hf'⟩ := k76_at (HN2.1.parts hbW).2.1 hi
  simp only [Value.slice.injEq, Option.some.injEq, Addr.mk.injEq] at he
  have hsb := he.1.1
  subst hsb
  have f0' := hf' 0
  have f1' := hf' 1
  rw [Nat.add_zero] at f0'
  have HNN := Aside0.mk HN2
  have HS := Aside0.mk (slot_add HN2.1 hbW hi v)
  replace g1 := blk3_1 hbW
  clear hW1 g0 g2 gf e2 e3 hfl hfI hcut e0 e1 f0 f1 HN2 hbW hf' he
  have hin : ((i : Int)) < (sl.length : Int) := hin2
  go_region
  have HTT := Aside0.mk ((HS.out.1.step (w1 := ((W1.setCell ⟨sb, i * 3, none⟩ (.int .i64 v)).setCell ⟨sb, i * 3 + 1, none⟩ (.bool true)).drew) (fun _ _ _ => rfl)))
  go_wp2_with fail
  refine (handle_calls HTT.out (i := i) (by simpa using hi) (by have := HK.out; omega) (by have := HGN.out; rw [List.getD_eq_getElem?_getD, List.getElem?_set_self hi]; simp only [Option.getD_some]; omega)).mono ?_
  rintro e w9 ⟨rfl, n9, rfl⟩
  go_wp2
  go_ret
  have hb9 := HS.out.2.1.b
  have hk9 := HS.out.2.1.k
  refine ⟨?_, HTT.out.step (fun _ _ _ => rfl), ((Fr.of_below HB1.out hbase).trans HNN.out.2).trans ⟨⟨hb9.os, hb9.tape, hb9.output, hb9.size, hb9.block⟩, hk9⟩⟩
  show Ending.returned (.int .u64 (pk kd i sl[i].f2)) = _
  rw [List.getD_eq_getElem?_getD, List.getElem?_eq_getElem hi]
  rfl
end Go.Proofs.Ytgcbfbdhibbpdaa.Tb
