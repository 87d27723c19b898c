/- slices.Delete of one element of a row of runs that is known whole (a row of the call's own, full): walked. -/
import Derived.Test.YtdkedgdieoojgaaRnx0
import Derived.WalkSpells
import Derived.WalkLawsBesides
import Derived.Deep.RegionLaw
set_option linter.unusedVariables false
set_option linter.unusedSimpArgs false
namespace Go.Proofs.Ytdkedgdieoojgaa.Rn
open Go.RowKit Go.Proofs.YtdkedgdieoojgaaW.PrintWords Go.Proofs.YtdkedgdieoojgaaW.PrintLast Go.Proofs.YtdkedgdieoojgaaW.PrintMore
def flat (xs : List S51) : List Value := xs.flatMap fun x => [.int .i64 x.f0, .int .i64 x.f1]
theorem flat_length (xs : List S51) : (flat xs).length = xs.length * 2 := by
  induction xs with
  | nil => rfl
  | cons x t ih => simp only [flat, List.flatMap_cons, List.length_append, List.length_cons, List.length_nil] at ih ⊢; omega
theorem flat_one (xs : List S51) : ∀ u ∈ flat xs, u.oneCell' = true := by
  intro u hu
  simp only [flat, List.mem_flatMap] at hu
  obtain ⟨x, _, hx⟩ := hu
  simp at hx
  rcases hx with rfl | rfl <;> rfl
theorem flat_append (xs ys : List S51) : flat (xs ++ ys) = flat xs ++ flat ys := by simp [flat]
theorem flat_take (xs : List S51) (k : Nat) : (flat xs).take (k * 2) = flat (xs.take k) := by
  induction xs generalizing k with
  | nil => simp [flat]
  | cons x t ih =>
    cases k with
    | zero => simp [flat]
    | succ k => have := ih k; simp only [flat, List.flatMap_cons, List.take_succ_cons, Nat.succ_mul] at this ⊢; rw [← this]; rfl
theorem flat_drop (xs : List S51) (k : Nat) : (flat xs).drop (k * 2) = flat (xs.drop k) := by
  induction xs generalizing k with
  | nil => simp [flat]
  | cons x t ih =>
    cases k with
    | zero => simp [flat]
    | succ k => have := ih k; simp only [flat, List.flatMap_cons, List.drop_succ_cons, Nat.succ_mul] at this ⊢; rw [← this]; rfl
theorem blk_cell_at {w : World} {g : Nat} {cs : List Value} {t : Nat} (h : w.heap[g]? = some (.cells cs.toArray t (0, 0))) (j : Nat) : w.cell? ⟨g, j, none⟩ = cs[j]? := by
  simp [World.cell?, h]
theorem blk_free {w : World} {g : Nat} {cs : Array Value} {t : Nat} (h : w.heap[g]? = some (.cells cs t (0, 0))) (j : Nat) : w.frozen? ⟨g, j, none⟩ = false := by
  simp [World.frozen?, h]
theorem setCells_blk {g : Nat} {t : Nat} : ∀ (news : List Value) (off : Nat) {w : World} {cs : List Value}, w.heap[g]? = some (.cells cs.toArray t (0, 0)) → off + news.length ≤ cs.length →
    (w.setCells g off news).heap[g]? = some (.cells (cs.take off ++ news ++ cs.drop (off + news.length)).toArray t (0, 0))
  | [], off, w, cs, h, _ => by simpa [World.setCells] using h
  | v :: r, off, w, cs, h, hl => by
    have h1 : (w.setCell ⟨g, off, none⟩ v).heap[g]? = some (.cells (cs.set off v).toArray t (0, 0)) := by
      have := setCell_eq_setRow w g off cs.toArray t (0, 0) v h
      rw [this, setRow_heap w g _ _ t _ h]
      simp
    have ih := setCells_blk (g := g) (t := t) r (off + 1) h1 (by simp at hl ⊢; omega)
    simp only [World.setCells, ih]
    have e := list_seg_step cs off v r (by simp at hl; omega)
    rw [e]
    simp
theorem setCells_kept (w : World) (g off : Nat) (news : List Value) : w.grownBy (w.setCells g off news) (some g) := by
  induction news generalizing w off with
  | nil => exact ⟨rfl, rfl, rfl, Nat.le_refl _, fun _ _ _ => rfl⟩
  | cons v r ih =>
    refine World.grownBy.trans (b := w.setCell ⟨g, off, none⟩ v) ⟨rfl, rfl, rfl, by simp [World.setCell], fun k hk hne => Below.heap_setCell _ _ _ _ (fun e => hne (by rw [e]))⟩ (ih _ _)
theorem setRow_kept (w : World) (g : Nat) (cs : Array Value) : w.grownBy (w.setRow g cs) (some g) :=
  ⟨rfl, rfl, rfl, by simp [World.setRow], fun k hk hne => setRow_other w g k cs (fun e => hne (by rw [e]))⟩
theorem zero36 (w : World) : (zeroValue 51).run Try.prog w = .ok (.agg #[.int .i64 0, .int .i64 0]) w := by kernel_rfl
def zz : List Value := [.int .i64 0, .int .i64 0]
theorem run_clear_one {w : World} {g o n : Nat} (hn : n = 1) {cs : List Value} (hb : w.heap[g]? = some (.cells cs.toArray 51 (0, 0))) (ho : o + 2 ≤ cs.length) :
    (Builtin.clear_ #[32] 0 #[.slice (some ⟨g, o, none⟩) n n]).run Try.prog w = .ok (.tuple #[]) (w.setRow g (cs.take o ++ zz ++ cs.drop (o + 2)).toArray) := by
  subst hn
  have hs := run_storeCells_at Try.prog g o 51 zz 0 cs.toArray w hb (by simpa [zz] using ho) (by simp [zz, Value.oneCell'])
  have hz : (Builtin.zeroCells (Value.agg #[.int .i64 0, .int .i64 0]).cells 1).toList = zz := by kernel_rfl
  have hl : zz.length = 2 := rfl
  simp only [Nat.add_zero, hl] at hs
  simp [Builtin.clear_, run_underlying Try.underlying32, zero36, hz, hs]
set_option maxHeartbeats 400000 in
theorem delete_mid (g i d : Nat) (xs : List S51) (w : World) (hb : w.heap[g]? = some (.cells (flat xs).toArray 51 (0, 0))) (hn : xs.length = i + 1 + d) (hm : i + 1 + d ≤ 1000) (hd : 0 < d) :
    Calls Try.prog 37 #[.slice (some ⟨g, 0, none⟩) (i + 1 + d) (i + 1 + d), .int .i64 i, .int .i64 (i + 1)] w fun e w' => e = .returned (.slice (some ⟨g, 0, none⟩) (i + d) (i + 1 + d)) ∧
      w'.heap[g]? = some (.cells (flat (xs.eraseIdx i ++ [z51])).toArray 51 (0, 0)) ∧ w.grownBy w' (some g) := by
  have Hb := Aside0.mk hb
  have Hn := Aside0.mk hn
  clear hb hn
  obtain ⟨i0, hi0, hz0, hz1, hz2⟩ := info_parts info51
  obtain ⟨news, hnw⟩ : ∃ ns, ns = (flat xs).drop ((i + 1) * 2) := ⟨_, rfl⟩
  have hl : news.length = d * 2 := by rw [hnw, List.length_drop, flat_length, Hn.out]; omega
  have hc : Aside0 (∀ j u, news[j]? = some u → w.drew.cell? ((⟨g, (i + 1) * 2, none⟩ : Addr).add j) = some u) := by
    refine ⟨fun j u hj => ?_⟩
    rw [hnw, List.getElem?_drop] at hj
    have := blk_cell_at (w := w.drew) (g := g) (cs := flat xs) (t := 51) Hb.out ((i + 1) * 2 + j)
    rw [show (⟨g, (i + 1) * 2, none⟩ : Addr).add j = ⟨g, (i + 1) * 2 + j, none⟩ from by unfold Addr.add; split <;> simp_all]
    rw [this]; exact hj
  have h1 : Aside0 (∀ u ∈ news, u.oneCell' = true) := ⟨fun u hu => flat_one xs u (List.mem_of_mem_drop (hnw ▸ hu))⟩
  have hsp : Aside0 (∀ j, j < news.length → (w.drew.cell? ⟨g, 0 + i * 2 + j, none⟩).isSome = true ∧ w.drew.frozen? ⟨g, 0 + i * 2 + j, none⟩ = false) := by
    refine ⟨fun j hj => ⟨?_, blk_free (w := w.drew) Hb.out _⟩⟩
    rw [blk_cell_at (w := w.drew) (g := g) (cs := flat xs) (t := 51) Hb.out, List.getElem?_eq_getElem (by rw [flat_length, Hn.out]; omega)]
    rfl
  have Hl := Aside0.mk hl
  have Hnw := Aside0.mk hnw
  clear hl hnw
  have hne : ¬ d = 0 := by omega
  have hin : (i : Int) ≤ (i : Int) + 1 + (d : Int) := by omega
  have hin1 : 0 ≤ (i : Int) + 1 ∧ (i : Int) + 1 ≤ (i : Int) + 1 + (d : Int) := by omega
  obtain ⟨W1, hW1⟩ : ∃ W1, W1 = w.drew.setCells g (i * 2) news := ⟨_, rfl⟩
  have HW1 := Aside0.mk hW1
  have hblk : Aside0 (W1.heap[g]? = some (.cells ((flat xs).take (i * 2) ++ news ++ (flat xs).drop (i * 2 + news.length)).toArray 51 (0, 0))) :=
    ⟨by rw [hW1]; exact setCells_blk news (i * 2) (w := w.drew) Hb.out (by rw [flat_length, Hn.out, Hl.out]; omega)⟩
  have hkp : Aside0 (w.grownBy W1 (some g)) := ⟨by rw [hW1]; exact (World.grownBy.trans (b := w.drew) ⟨rfl, rfl, rfl, Nat.le_refl _, fun _ _ _ => rfl⟩ (setCells_kept _ _ _ _))⟩
  have hdl : (i + 1 + d - (i + d)) = 1 := by omega
  obtain ⟨L1, hL1⟩ : ∃ L1, L1 = (flat xs).take (i * 2) ++ news ++ (flat xs).drop (i * 2 + news.length) := ⟨_, rfl⟩
  have hlen : L1.length = (i + 1 + d) * 2 := by rw [hL1]; simp only [List.length_append, List.length_take, List.length_drop, flat_length, Hn.out, Hl.out]; omega
  rw [← hL1] at hblk
  have hclr := run_clear_one hdl (o := (i + d) * 2) hblk.out (by omega)
  obtain ⟨W2, hW2⟩ : ∃ W2, W2 = W1.setRow g (L1.take ((i + d) * 2) ++ zz ++ L1.drop ((i + d) * 2 + 2)).toArray := ⟨_, rfl⟩
  rw [← hW2] at hclr
  have hkp2 : Aside0 (w.grownBy W2 (some g)) := ⟨by rw [hW2]; exact hkp.out.trans (setRow_kept _ _ _)⟩
  have hfin : Aside0 (W2.heap[g]? = some (.cells (flat (xs.eraseIdx i ++ [z51])).toArray 51 (0, 0))) := by
    refine ⟨?_⟩
    rw [hW2, setRow_heap W1 g _ _ 51 _ hblk.out]
    have e1 : L1.drop ((i + d) * 2 + 2) = [] := List.drop_eq_nil_of_le (by omega)
    have e2 : L1.take ((i + d) * 2) = (flat xs).take (i * 2) ++ news := by
      have e3 : ((flat xs).take (i * 2) ++ news).length = (i + d) * 2 := by simp only [List.length_append, List.length_take, flat_length, Hn.out, Hl.out]; omega
      rw [hL1, List.take_append_of_le_length (by omega), ← e3, List.take_length]
    rw [e1, e2, Hnw.out, flat_take, flat_drop, List.append_nil, List.eraseIdx_eq_take_drop_succ, flat_append, flat_append]
    rfl
  clear hW1 hL1 hlen hdl hW2
  go_enter Try.func37, Try.ntmps37
  go_wp2
  go_region_law (refine step_append_room rfl (.tmp 22) (.tmp 25) 32 rfl 51 i0 2 Try.underlying32 hi0 hz1 g 0 i (i + 1 + d) (by simp [Act.eval, Act.put]) ⟨g, (i + 1) * 2, none⟩ d d news (by simp [Act.eval, Act.put]) Hl.out hc.out h1.out (by omega) hsp.out ?_)
  all_goals simp only [Nat.zero_add, ← HW1.out]
  all_goals go_wp2
  all_goals go_ret
  all_goals exact ⟨rfl, hfin.out, hkp2.out⟩
set_option maxHeartbeats 400000 in
theorem delete_end (g i : Nat) (xs : List S51) (w : World) (hb : w.heap[g]? = some (.cells (flat xs).toArray 51 (0, 0))) (hn : xs.length = i + 1) (hm : i + 1 ≤ 1000) :
    Calls Try.prog 37 #[.slice (some ⟨g, 0, none⟩) (i + 1) (i + 1), .int .i64 i, .int .i64 (i + 1)] w fun e w' => e = .returned (.slice (some ⟨g, 0, none⟩) i (i + 1)) ∧
      w'.heap[g]? = some (.cells (flat (xs.eraseIdx i ++ [z51])).toArray 51 (0, 0)) ∧ w.grownBy w' (some g) := by
  have Hb := Aside0.mk hb
  have Hn := Aside0.mk hn
  clear hb hn
  obtain ⟨i0, hi0, hz0, hz1, hz2⟩ := info_parts info51
  have hin : (i : Int) ≤ (i : Int) + 1 := by omega
  have hin1 : 0 ≤ (i : Int) + 1 := by omega
  obtain ⟨W1, hW1⟩ : ∃ W1, W1 = w.drew := ⟨_, rfl⟩
  have HW1 := Aside0.mk hW1
  have hblk : Aside0 (W1.heap[g]? = some (.cells (flat xs).toArray 51 (0, 0))) := ⟨by rw [hW1]; exact Hb.out⟩
  have hkp : Aside0 (w.grownBy W1 (some g)) := ⟨by rw [hW1]; exact ⟨rfl, rfl, rfl, Nat.le_refl _, fun _ _ _ => rfl⟩⟩
  have hdl : (i + 1 - i) = 1 := by omega
  have hlen := flat_length xs
  rw [Hn.out] at hlen
  have hclr := run_clear_one (n := 1) rfl (o := i * 2) hblk.out (by omega)
  obtain ⟨W2, hW2⟩ : ∃ W2, W2 = W1.setRow g ((flat xs).take (i * 2) ++ zz ++ (flat xs).drop (i * 2 + 2)).toArray := ⟨_, rfl⟩
  rw [← hW2] at hclr
  have hkp2 : Aside0 (w.grownBy W2 (some g)) := ⟨by rw [hW2]; exact hkp.out.trans (setRow_kept _ _ _)⟩
  have hfin : Aside0 (W2.heap[g]? = some (.cells (flat (xs.eraseIdx i ++ [z51])).toArray 51 (0, 0))) := by
    refine ⟨?_⟩
    rw [hW2, setRow_heap W1 g _ _ 51 _ hblk.out]
    have e1 : (flat xs).drop (i * 2 + 2) = [] := List.drop_eq_nil_of_le (by omega)
    rw [e1, flat_take, List.append_nil, List.eraseIdx_eq_take_drop_succ, flat_append, flat_append, List.drop_eq_nil_of_le (by have := Hn.out; omega)]
    simp [flat, zz, z51]
  clear hW1 hlen hdl hW2
  go_enter Try.func37, Try.ntmps37
  go_wp2
  go_region_law (refine step_append_room rfl (.tmp 22) (.tmp 25) 32 rfl 51 i0 2 Try.underlying32 hi0 hz1 g 0 i (i + 1) (by simp [Act.eval, Act.put]) ⟨g, 0, none⟩ 0 0 [] (by simp [Act.eval, Act.put]) (by simp) (by simp) (by simp) (by omega) (by simp) ?_)
  all_goals simp only [World.setCells, ← HW1.out]
  all_goals go_wp2
  all_goals go_ret
  all_goals exact ⟨rfl, hfin.out, hkp2.out⟩
/-- slices.Delete of one element, at a row known whole. -/
theorem delete_calls (g n i : Nat) (xs : List S51) (w : World) (hb : w.heap[g]? = some (.cells (flat xs).toArray 51 (0, 0))) (hn : xs.length = n) (hi : i < n) (hm : n ≤ 1000) :
    Calls Try.prog 37 #[.slice (some ⟨g, 0, none⟩) n n, .int .i64 i, .int .i64 (i + 1)] w fun e w' => e = .returned (.slice (some ⟨g, 0, none⟩) (n - 1) n) ∧
      w'.heap[g]? = some (.cells (flat (xs.eraseIdx i ++ [z51])).toArray 51 (0, 0)) ∧ w.grownBy w' (some g) := by
  obtain ⟨d, rfl⟩ : ∃ d, n = i + 1 + d := ⟨n - (i + 1), by omega⟩
  rw [show i + 1 + d - 1 = i + d from by omega]
  by_cases h0 : d = 0
  · subst h0
    exact delete_end g i xs w hb hn hm
  · exact delete_mid g i d xs w hb hn hm (by omega)
end Go.Proofs.Ytdkedgdieoojgaa.Rn
