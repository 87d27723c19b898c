/- The methods of no pages at all (a nil pointer), walked by hand. -/
import Derived.Test.YtdkedgdieoojgaaMRef6
set_option linter.unusedVariables false
set_option linter.unusedSimpArgs false
namespace Go.Proofs.Ytdkedgdieoojgaa.Rn
open Go.ChangeShapes Go.RowKit Go.Proofs.YtdkedgdieoojgaaW.PrintWords Go.Proofs.YtdkedgdieoojgaaW.PrintLast Go.Proofs.YtdkedgdieoojgaaW.PrintMore
theorem give_nil (p n : Int) (w : World) : Calls Try.prog 10 #[.pointer none, .int .i64 p, .int .i64 n] w fun e w' => e = .returned (.int .i64 1) ∧ w' = w := by
  go_enter Try.func10, Try.ntmps10
  go_wp2_with fail
  go_ret
  exact ⟨rfl, rfl⟩
theorem take_nil (n : Int) (w : World) : Calls Try.prog 11 #[.pointer none, .int .i64 n] w fun e w' => e = .returned (.tuple #[.int .i64 0, .int .i64 1]) ∧ w' = w := by
  go_enter Try.func11, Try.ntmps11
  go_wp2_with fail
  go_ret2
  exact ⟨rfl, rfl⟩
theorem pages_nil (w : World) : Calls Try.prog 22 #[.pointer none] w fun e w' => e = .returned (.int .i64 0) ∧ w' = w := by
  go_enter Try.func22, Try.ntmps22
  go_wp2_with fail
  go_ret
  exact ⟨rfl, rfl⟩
theorem ticks_nil (w : World) : Calls Try.prog 14 #[.pointer none] w fun e w' => e = .returned (.int .i64 0) ∧ w' = w := by
  go_enter Try.func14, Try.ntmps14
  go_wp2_with fail
  go_ret
  exact ⟨rfl, rfl⟩
theorem runs_nil (w : World) : Calls Try.prog 12 #[.pointer none] w fun e w' => e = .returned (.slice none 0 0) ∧ w' = w := by
  go_enter Try.func12, Try.ntmps12
  go_wp2_with fail
  go_ret
  exact ⟨rfl, rfl⟩
theorem free_nil (w : World) : Calls Try.prog 19 #[.pointer none] w fun e w' => e = .returned (.int .i64 0) ∧ Below w.heap.size w w' := by
  have ht := Aside0.mk (total_is [] (by decide) 1 (by simp))
  go_enter Try.func19, Try.ntmps19
  go_wp2_with fail
  refine (runs_nil _).mono ?_
  rintro e w1 ⟨rfl, rfl⟩
  go_wp2_with fail
  refine (runs_Total.calls 1 none 0 [] 0 _ (Kd.C_nil _ _) (Nat.le_refl _) ht.out).mono ?_
  rintro e w2 ⟨rfl, hb⟩
  have HB := Aside0.mk hb
  clear hb
  go_wp2_with fail
  go_ret
  exact ⟨rfl, HB.out⟩
theorem largest_nil (w : World) : Calls Try.prog 13 #[.pointer none] w fun e w' => e = .returned (.int .i64 0) ∧ w' = w := by
  go_enter Try.func13, Try.ntmps13
  go_wp2_with fail
  refine (runs_nil _).mono ?_
  rintro e w1 ⟨rfl, rfl⟩
  go_wp2_with fail
  go_ret
  exact ⟨rfl, rfl⟩
/-- What the document's Largest comes to. -/
theorem largest6_loop (P t : Int) (l : List S51) (hf : fitsR l = true) (d : Nat) : ∀ (k i : Nat) (m : Int), i + d = l.length → d < k → (∃ r, steadingref06_Largest.l0 k m (i : Int) P l t = some r ∧ m ≤ r ∧ (∀ y ∈ l.drop i, y.f1 ≤ r) ∧ (r = m ∨ ∃ x ∈ l.drop i, r = x.f1)) := by
  have hl := fitsR_len hf
  induction d with
  | zero =>
    intro k i m hi hk
    obtain ⟨k, rfl⟩ : ∃ q, k = q + 1 := ⟨k - 1, by omega⟩
    refine ⟨m, ?_, Int.le_refl _, ?_, .inl rfl⟩
    · simp only [steadingref06_Largest.l0]; rw [if_neg (by omega)]
    · rw [List.drop_eq_nil_of_le (by omega)]; intro y hy; simp at hy
  | succ d ih =>
    intro k i m hi hk
    obtain ⟨k, rfl⟩ : ∃ q, k = q + 1 := ⟨k - 1, by omega⟩
    have hil : i < l.length := by omega
    have hx := rd_get hil
    simp only [steadingref06_Largest.l0]
    rw [if_pos (by omega), if_pos (by omega), hx, wr_succ (by omega), List.drop_eq_getElem_cons hil]
    by_cases c : l[i].f1 > m
    · rw [if_pos c]
      obtain ⟨r, h1, h2, h3, h4⟩ := ih k (i + 1) l[i].f1 (by omega) (by omega)
      refine ⟨r, h1, by omega, fun y hy => ?_, .inr ?_⟩
      · rcases List.mem_cons.1 hy with rfl | hy
        · exact h2
        · exact h3 y hy
      · rcases h4 with h4 | ⟨x, hx, h4⟩
        · exact ⟨_, List.mem_cons_self, h4⟩
        · exact ⟨x, List.mem_cons_of_mem _ hx, h4⟩
    · rw [if_neg c]
      obtain ⟨r, h1, h2, h3, h4⟩ := ih k (i + 1) m (by omega) (by omega)
      refine ⟨r, h1, h2, fun y hy => ?_, h4.imp id (fun ⟨x, hx, h⟩ => ⟨x, List.mem_cons_of_mem _ hx, h⟩)⟩
      rcases List.mem_cons.1 hy with rfl | hy
      · omega
      · exact h3 y hy
theorem largest6_is (P t m : Int) (l : List S51) (hf : fitsR l = true) (hm : IsLargest l m) : steadingref06_Largest.f 2000 P l t = some m := by
  have hl := fitsR_len hf
  obtain ⟨r, h1, h2, h3, h4⟩ := largest6_loop P t l hf l.length 2000 0 0 (by omega) (by omega)
  rw [List.drop_zero] at h3 h4
  have e : r = m := by
    rcases hm with ⟨rfl, rfl⟩ | ⟨⟨x, hx, rfl⟩, hall⟩
    · rcases h4 with h4 | ⟨x, hx, _⟩
      · exact h4
      · simp at hx
    · have := h3 x hx
      have hx0 := fitsR_mem hf hx
      rcases h4 with h4 | ⟨y, hy, h4⟩
      · omega
      · have := hall y hy; omega
  rw [← e]
  exact h1
end Go.Proofs.Ytdkedgdieoojgaa.Rn
