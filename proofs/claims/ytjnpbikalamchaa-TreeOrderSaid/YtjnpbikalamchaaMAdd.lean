/- A tree's Add. -/
import Derived.Test.YtjnpbikalamchaaMStep
set_option linter.unusedVariables false
set_option linter.unusedSimpArgs false
namespace Go.Proofs.Ytjnpbikalamchaa.Tr
open Go.RowKit Go.Maps Go.Proofs.YtjnpbikalamchaaW.PrintWords Go.Proofs.YtjnpbikalamchaaW.PrintLast Go.Proofs.YtjnpbikalamchaaW.PrintMore
attribute [local go_sem] max2_int min2_int
section
variable {w : World} {base : Nat} {ok : Nat → Prop} {g : Nat} {S : Int → Bool} {n : Nat} {pa : Int → Int} {ki : Int → List Int} {m : Nat} {nb : Int → Nat} {tag : Nat → Nat} {D : DataW Unit}
set_option maxHeartbeats 1000000 in
theorem add_nil (id p : Int) (w : World) :
    Calls Try.prog 11 #[.pointer none, .int .u64 id, .int .u64 p] w fun e w' => e = .returned (.bool false) ∧ w' = w := by
  go_enter Try.func11, Try.ntmps11
  go_wp2_with fail
  refine (node_nil p w).mono ?_
  rintro e w1 ⟨rfl, rfl⟩
  go_wp2_with fail
  go_ret
  exact ⟨rfl, rfl⟩
set_option maxHeartbeats 1000000 in
theorem add_noparent (h : TX w base ok g S n pa ki m nb tag D) {id p : Int} (hp : u64 p) (hs : S p = false) :
    Calls Try.prog 11 #[.pointer (some ⟨g, 0, none⟩), .int .u64 id, .int .u64 p] w fun e w' => e = .returned (.bool false) ∧ w' = w := by
  go_enter Try.func11, Try.ntmps11
  go_wp2_with fail
  refine (node_no h hp hs).mono ?_
  rintro e w1 ⟨rfl, rfl⟩
  go_wp2_with fail
  go_ret
  exact ⟨rfl, rfl⟩
set_option maxHeartbeats 1000000 in
theorem add_there (h : TX w base ok g S n pa ki m nb tag D) {id p : Int} (hs : S p = true) (hi : S id = true) :
    Calls Try.prog 11 #[.pointer (some ⟨g, 0, none⟩), .int .u64 id, .int .u64 p] w fun e w' => e = .returned (.bool false) ∧ w' = w := by
  go_enter Try.func11, Try.ntmps11
  go_wp2_with fail
  refine (node_yes h hs).mono ?_
  rintro e w1 ⟨rfl, rfl⟩
  go_wp2_with fail
  refine (node_yes h hi).mono ?_
  rintro e w1 ⟨rfl, rfl⟩
  go_wp2_with fail
  go_ret
  exact ⟨rfl, rfl⟩
set_option maxHeartbeats 2000000 in
theorem add_new (h : TX w base ok g S n pa ki m nb tag D) {id p : Int} (hu : u64 id) (hs : S p = true) (hi : S id = false) (hbase : base ≤ w.heap.size) (hfresh : ∀ k, w.heap.size ≤ k → ok k) (hn : n ≤ 1000000) (hl : (ki p).length ≤ 1000000) :
    Calls Try.prog 11 #[.pointer (some ⟨g, 0, none⟩), .int .u64 id, .int .u64 p] w fun e w' => e = .returned (.bool true) ∧
      (∃ nb' tag' D', TX w' base ok g (fun x => decide (x = id) || S x) (n + 1) (fun x => if x = id then p else pa x) (fun x => if x = p then ki p ++ [id] else if x = id then [] else ki x) m nb' tag' D') ∧ Fr base ok w w' := by
  have g0 := blk1_0 h.blk
  have hne : p ≠ id := by rintro rfl; rw [hs] at hi; cases hi
  have hpu := h.rng p hs
  obtain ⟨W2, hrun2, hown2, hturn2⟩ := (h.own.alloc (.cells #[.int .u64 p, .slice none 0 0] 54)).store law27 Try.underlying55 (by unfold maxLen; omega) (kl := .int .u64 id) (key27 hu) (val := .pointer (some ⟨w.heap.size, 0, none⟩)) (d := .lit (.int .u64 (w.heap.size : Int))) (ps := []) rfl
  have hs2 : W2.heap.size = w.heap.size + 1 := by rw [turned_size hturn2]; simp
  have hF2 : Fr base ok w W2 := (Fr.of_below (below_alloc (Below.refl _ _) _) hbase).trans (fr_turned hturn2 h.mo h.mb (by simp; omega))
  have hT2 := h.put hu hi (tR p) hbase (hfresh _ (Nat.le_refl _)) hown2 hturn2
  have hfr : ∀ k, W2.heap.size ≤ k → ok k ∧ (fun k => if k < w.heap.size then tag k else if k = w.heap.size then tN id else tR p) k = tR p := fun k hk => ⟨hfresh k (by omega), by simp only; rw [if_neg (by omega), if_neg (by omega)]⟩
  obtain ⟨T2, hT2e⟩ : ∃ T2, T2 = (fun k => if k < w.heap.size then tag k else if k = w.heap.size then tN id else tR p) := ⟨_, rfl⟩
  rw [← hT2e] at hT2 hfr
  clear hT2e
  obtain ⟨v, hb, hbb, hbo, hbt, hR⟩ := hT2.node p (by simp [hs])
  simp only [hne, if_false] at hb hbb hbo hbt hR
  have HFR := Aside0.mk hfr
  clear hfr
  obtain ⟨A, c, rfl⟩ := Kd.R_slice hR
  have g1 := blk2_1 hb
  have hG : ∀ w5, W2.grownBy w5 (Value.slice A (ki p).length c).ownBlock → w5.heap[nb p]? = some (.cells #[.int .u64 (pa p), .slice A (ki p).length c] 54 (0, 0)) := fun w5 hg =>
    (hg.block _ (lt_blk hb) (fun e => tN_tR _ _ (hbt.symm.trans (hR.1 _ e.symm).2))).trans hb
  have HG := Aside0.mk hG
  have HT2 := Aside0.mk hT2
  have HB := Aside0.mk hb
  have HR := Aside0.mk hR
  have HF2 := Aside0.mk hF2
  have HS2 := Aside0.mk hs2
  clear hown2 hturn2 hT2 hb hR hF2 hbt hs2 hG
  go_enter Try.func11, Try.ntmps11
  go_wp2_with fail
  refine (node_yes h hs).mono ?_
  rintro e w1 ⟨rfl, rfl⟩
  go_wp2_with fail
  refine (node_no h hu hi).mono ?_
  rintro e w1 ⟨rfl, rfl⟩
  go_wp2_with (at_builtin; refine Kd.R_append (Kd.int .u64) (w0 := W2) base rfl _ _ 33 27 _ 8 rfl Try.underlying33 info27 rfl (show 0 < 1 by decide) (by decide) (.slice A (ki p).length c) (ki p) id [.int .u64 id] (fun k => ok k ∧ T2 k = tR p) (fun _ => False) rfl (by first | rfl | (go_simp; done) | (simp; done)) rfl (fun _ h => h.elim) HFR.out HR.out (Below.refl _ _) (by have := HS2.out; omega) (by have := hl; omega) ?_; intro v1 w5 hR5 hb5 hg5 hat5; have hb6 := HG.out w5 hg5; have g6 := blk2_1 hb6; have f6 := blk2_f hb6 1; obtain ⟨sb, cc, rfl, _, _, _⟩ := Kd.R_form hR5 (by simp); have HR5 := Aside0.mk hR5; have HG5 := Aside0.mk hg5; clear hR5 hb5 hg5 hat5 hb6)
  go_ret
  have hTT := HT2.out.row (p := p) (by simp [hs]) (v := .slice A (ki p).length c) (by simp only [hne, if_false]; exact HB.out) (fun k hk => (HR.out.1 k hk).2) HG5.out HR5.out
  rw [if_neg hne, List.length_append, List.length_singleton] at hTT
  exact ⟨rfl, ⟨_, _, _, hTT⟩, (HF2.out.trans (fr_grown_ok (Kd.R_mono HR.out (fun k hk => hk.1)) HG5.out (by have := HS2.out; omega))).set hbb hbo 1 _⟩
end
end Go.Proofs.Ytjnpbikalamchaa.Tr
