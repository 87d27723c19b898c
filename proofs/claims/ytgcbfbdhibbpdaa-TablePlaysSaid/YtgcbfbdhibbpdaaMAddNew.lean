/- A table's method Add, where no slot is free. -/
import Derived.Test.YtgcbfbdhibbpdaaMAdd
set_option linter.unusedVariables false
set_option linter.unusedSimpArgs false
namespace Go.Proofs.Ytgcbfbdhibbpdaa.Tb
open Go.RowKit Go.Proofs.YtgcbfbdhibbpdaaW.PrintWords Go.Proofs.YtgcbfbdhibbpdaaW.PrintLast Go.Proofs.YtgcbfbdhibbpdaaW.PrintMore
attribute [local go_sem] max2_int min2_int
set_option maxRecDepth 4000 in
set_option maxHeartbeats 2000000 in
theorem add_new {w : World} {base : Nat} {ok : Nat → Prop} {g : Nat} {kd : Int} {sl : List S76} (h : TB w base ok g kd sl []) (v : Int) (hk : 1 ≤ kd ∧ kd ≤ 3) (hbase : base ≤ w.heap.size) (hfresh : ∀ k, w.heap.size ≤ k → ok k) (hsl : sl.length ≤ 1000) :
    Calls Try.prog 10 #[.pointer (some ⟨g, 0, none⟩), .int .i64 v] w fun e w' => e = .returned (.int .u64 (pk kd sl.length 0)) ∧ TB w' base ok g kd (sl ++ [⟨v, true, 0⟩]) [] ∧ Fr base ok w w' := by
  have hT := h
  obtain ⟨h0, vs, vf, hb, hR, hF⟩ := h
  obtain ⟨A2, c2, rfl⟩ := Kd.R_slice hF
  obtain ⟨A1, c1, rfl⟩ := Kd.R_slice hR
  rw [List.length_nil] at hb hF
  have hp0 : handle_Pack.f kd 0 0 = some (pk kd 0 0) := pack_is kd 0 0 (by omega) (by omega) (by omega)
  have hp1 : ¬ pk kd 0 0 = 0 := by unfold pk; rw [if_pos (by omega)]; omega
  obtain ⟨p, hp⟩ : ∃ p, p = pk kd 0 0 := ⟨_, rfl⟩
  rw [← hp] at hp0 hp1
  have hp2 : (p == 0) = false := by simpa using hp1
  have g0 := blk3_0 hb
  have g1 := blk3_1 hb
  have g2 := blk3_2 hb
  have gf := blk3_f hb 1
  have HT := Aside0.mk hT
  have HB := Aside0.mk hb
  have HP0 := Aside0.mk hp0
  have HK := Aside0.mk hk
  have HSL := Aside0.mk hsl
  clear hT hb hR hF hp hp0 hk
  go_enter Try.func10, Try.ntmps10
  go_wp2_with fail
  refine (handle_Pack.calls kd 0 0 p w HP0.out).mono ?_
  rintro e w1 ⟨rfl, hd1⟩
  have hb1 := hd1.below
  have HB1 := Aside0.mk hb1
  replace gf : w1.frozen? ⟨g, 1, none⟩ = false := (hb1.frozen (World.block_lt_of_cell? w _ g1)).trans gf
  replace g0 := pw_cell_below hb1 g0
  replace g1 := pw_cell_below hb1 g1
  replace g2 := pw_cell_below hb1 g2
  have hbw := Aside0.mk ((hb1.block _ HT.out.lt).trans HB.out)
  have HPW := Aside0.mk ((HT.out.below hb1).parts hbw.out)
  have HBB := Aside0.mk (hb1.mono hbase)
  clear hb1 hd1
  go_wp2_with (at_builtin; refine Kd.R_append k76 (w0 := w) base rfl _ _ 72 76 _ 24 rfl Try.underlying72 info76 rfl (show 0 < 3 by decide) (by decide) (.slice A1 sl.length c1) sl z76 [.int .i64 0, .bool false, .int .i64 0] ok (fun _ => False) rfl (by first | rfl | (go_simp; done) | (simp; done)) (k76_mkM _ _ _ z76) (fun _ h => h.elim) (fun k hk => hfresh k (Nat.le_trans HBB.out.size hk)) HPW.out.2.1 HBB.out (Nat.le_trans hbase HBB.out.size) (by have := HSL.out; omega) ?_; intro v1 w5 hR5 hb5 hg5 hat5; have hb6 := block_apart hbw.out HPW.out.2.1 (by decide) hg5; have g6 := blk3_1 hb6; have f6 := blk3_f hb6 1; obtain ⟨sb, cc, rfl, hsbb, hsbl, hsbc⟩ := Kd.R_form hR5 (by simp); have HE := Aside0.mk (TB.slots_new HPW.out.1 hbw.out HPW.out.2.1 HPW.out.2.2 hg5 hR5); have HS6 := Aside0.mk (set3_1 (u := .slice (some ⟨sb, 0, none⟩) (sl ++ [z76]).length cc) hb6); clear hb6 hg5 hR5 hb5 hat5 hsbc)
  obtain ⟨W1, hW1⟩ : ∃ W, W = w5.setCell ⟨g, 1, none⟩ (.slice (some ⟨sb, 0, none⟩) (sl.length + 1) cc) := ⟨_, rfl⟩
  rw [← hW1]
  have hlen : (sl ++ [z76]).length = sl.length + 1 := by simp
  have HN2 := HE.out
  have hbW := HS6.out
  rw [hlen, ← hW1] at HN2 hbW
  have hi : sl.length < (sl ++ [z76]).length := by simp
  obtain ⟨i, hii⟩ : ∃ i, i = sl.length := ⟨_, rfl⟩
  obtain ⟨L, hL⟩ : ∃ L, L = sl ++ [z76] := ⟨_, rfl⟩
  have hset : L.set i ⟨v, true, 0⟩ = sl ++ [⟨v, true, 0⟩] := by rw [hL, hii]; simp
  have hget : L.getD i z76 = z76 := by rw [hL, hii]; simp
  rw [← hL] at HN2 hi hlen
  rw [← hii] at hi
  rw [← hlen] at hbW
  have HSET := Aside0.mk hset
  obtain ⟨sb2, c3, he, hsb3, ho3, _, e0', e1', _, hf'⟩ := k76_at (HN2.1.parts hbW).2.1 hi
  simp only [Value.slice.injEq, Option.some.injEq, Addr.mk.injEq] at he
  have hsb := he.1.1
  subst hsb
  have f0' := hf' 0
  have f1' := hf' 1
  rw [Nat.add_zero] at f0'
  have HNN := Aside0.mk HN2
  have HS := Aside0.mk (slot_add HN2.1 hbW hi v)
  replace g1 := blk3_1 hbW
  have hin0 : ((i : Int)) < (L.length : Int) := by omega
  have hin1 : 0 ≤ (i : Int) ∧ ((i : Int)) < (L.length : Int) := by omega
  have HII := Aside0.mk hii
  have HGET := Aside0.mk hget
  rw [← hii]
  clear hW1 g0 g2 gf g6 f6 HN2 hbW hf' he hlen hset hget hL hii
  go_region
  have HTT := Aside0.mk ((HS.out.1.step (w1 := ((W1.setCell ⟨sb, i * 3, none⟩ (.int .i64 v)).setCell ⟨sb, i * 3 + 1, none⟩ (.bool true)).drew) (fun _ _ _ => rfl)))
  rw [HGET.out] at HTT HS
  have hg2 : ((L.set i ⟨v, true, z76.f2⟩).getD i z76).f2 = 0 := by rw [List.getD_eq_getElem?_getD, List.getElem?_set_self hi]; rfl
  have HHC := Aside0.mk (handle_calls HTT.out (i := i) (by simpa using hi) (by have := HK.out; omega) (by rw [hg2]; omega))
  rw [hg2] at HHC
  go_wp2_with fail
  refine HHC.out.mono ?_
  rintro e w9 ⟨rfl, n9, rfl⟩
  go_wp2
  have hz0 : (z76).f2 = 0 := rfl
  rw [hz0] at HTT HS
  rw [HSET.out] at HTT
  have hii := HII.out
  subst hii
  go_ret
  have hb9 := HS.out.2.1.b
  have hk9 := HS.out.2.1.k
  exact ⟨rfl, HTT.out.step (fun _ _ _ => rfl), ((Fr.of_below HB1.out hbase).trans HNN.out.2).trans ⟨⟨hb9.os, hb9.tape, hb9.output, hb9.size, hb9.block⟩, hk9⟩⟩
end Go.Proofs.Ytgcbfbdhibbpdaa.Tb
