/- slices.Clone of bytes, walked by hand, and what slices.Equal of bytes tells. -/
import Derived.Test.YtabmmdpioennfaaRex12
import Derived.WalkSpells
set_option linter.unusedVariables false
set_option linter.unusedSimpArgs false
namespace Go.Proofs.Ytabmmdpioennfaa.Re
open Go.RowKit Go.Proofs.YtabmmdpioennfaaW.PrintWords Go.Proofs.YtabmmdpioennfaaW.PrintLast Go.Proofs.YtabmmdpioennfaaW.PrintMore
theorem info5 : (Try.prog.info? 5).map (fun i => (i.zero, i.size, i.bytes)) = some (some (.int .u8 0), 1, 1) := by kernel_rfl
theorem R_none_made (w : World) : (Kd.int .u8).R 5 (w.alloc (.cells #[] 5)) w.heap.size (fun _ => True) (.slice (some ⟨w.heap.size, 0, none⟩) 0 0) [] :=
  ⟨fun _ _ => trivial, [], World.ownsRow_made w #[] 0 (Nat.le_refl _) (by simp [maxLen]) rfl, Reps.none _ _⟩
set_option maxHeartbeats 1000000 in
theorem clone_some (A : Addr) (c : Nat) (l : List Int) (w : World) (hC : (Kd.int .u8).C w (some A) l.length l) (hc : l.length ≤ c) (hl : l.length ≤ 100000) :
    Calls Try.prog 30 #[.slice (some A) l.length c] w fun e w' => ∃ v, e = .returned v ∧ (Kd.int .u8).R 5 w' w.heap.size (fun _ => True) v l ∧ Below w.heap.size w w' := by
  have hnil : ∀ W : World, (binOp .eql 41 (.slice (some A) l.length c) (.slice none 0 0)).run Try.prog W = .ok (.bool false) W := fun W => Lib.run_eql_slice_nil W 41 5 (some A) l.length c 0 0 Try.underlying41
  have HC := Aside0.mk hC
  clear hC
  go_enter Try.func30, Try.ntmps30
  go_wp2_with (at_builtin; refine Kd.R_append_rows (w0 := w) (Kd.int .u8) (Rr := (Kd.int .u8).K w) w.heap.size rfl _ _ 41 5 _ 1 rfl Try.underlying41 info5 rfl (by decide) (by decide) (.slice (some ⟨w.heap.size, 0, none⟩) 0 0) [] l (some A) l.length c (fun _ => True) (fun _ => False) rfl rfl ?h0 ?h1 ?h2 ?h3 (fun _ _ => trivial) ?h35 ?h4 ?h5 ?_)
  case h0 => exact R_none_made w
  case h1 => exact Kd.C_below HC.out (below_alloc (Below.refl _ _) _)
  case h2 => intro x cs hx; exact hx
  case h3 => exact fun _ h => h.elim
  case h35 => exact below_alloc (Below.refl _ _) _
  case h4 => simp
  case h5 => simp; omega
  intro v1 w3 hR hB3 _ _
  have HR := Aside0.mk hR
  have HB := Aside0.mk hB3
  clear hR hB3 hnil
  go_wp2
  go_ret
  exact ⟨_, rfl, by simpa using HR.out, HB.out⟩
set_option maxHeartbeats 1000000 in
theorem clone_none (c : Nat) (w : World) :
    Calls Try.prog 30 #[.slice none 0 c] w fun e w' => e = .returned (.slice none 0 0) ∧ Below w.heap.size w w' := by
  have hnil : ∀ W : World, (binOp .eql 41 (.slice none 0 c) (.slice none 0 0)).run Try.prog W = .ok (.bool true) W := fun W => Lib.run_eql_slice_nil W 41 5 none 0 c 0 0 Try.underlying41
  go_enter Try.func30, Try.ntmps30
  go_wp2_with fail
  go_ret
  exact ⟨rfl, Below.refl _ _⟩
/-- Clone of what reads as l. -/
theorem clone_calls {A : Option Addr} {c : Nat} {l : List Int} {w : World} (hC : (Kd.int .u8).C w A l.length l) (hc : l.length ≤ c) (hl : l.length ≤ 100000) :
    Calls Try.prog 30 #[.slice A l.length c] w fun e w' => ∃ v, e = .returned v ∧ (Kd.int .u8).R 5 w' w.heap.size (fun _ => True) v l ∧ Below w.heap.size w w' := by
  cases A with
  | some A => exact clone_some A c l w hC hc hl
  | none =>
    have hl0 : l = [] := by
      rcases Nat.eq_zero_or_pos l.length with h | h
      · exact List.eq_nil_of_length_eq_zero h
      · obtain ⟨_, he, _⟩ := hC.2.2 h; cases he
    subst hl0
    refine (clone_none c w).mono ?_
    rintro e w1 ⟨rfl, hb⟩
    exact ⟨_, rfl, Kd.R_nil _ _ _ _ _, hb⟩
/-! ### slices.Equal -/
theorem rd_at {l : List Int} {i : Nat} (h : i < l.length) : rd l (i : Int) = l[i] := by
  unfold rd
  rw [Int.toNat_natCast, List.getD_eq_getElem?_getD, List.getElem?_eq_getElem h]; rfl
theorem drop_iff {a b : List Int} {i : Nat} (h1 : i < a.length) (h2 : i < b.length) : a.drop i = b.drop i ↔ a[i] = b[i] ∧ a.drop (i + 1) = b.drop (i + 1) := by
  rw [List.drop_eq_getElem_cons h1, List.drop_eq_getElem_cons h2, List.cons.injEq]
theorem equal_loop (a b : List Int) (hab : a.length = b.length) (hl : a.length ≤ 100000) (d : Nat) : ∀ (k i : Nat), i + d = a.length → d < k → slices_Equal_byte_byte.l0 k a b (a.length : Int) (i : Int) = some (decide (a.drop i = b.drop i)) := by
  induction d with
  | zero =>
    intro k i hi hk
    obtain ⟨k, rfl⟩ : ∃ q, k = q + 1 := ⟨k - 1, by omega⟩
    simp only [slices_Equal_byte_byte.l0]
    rw [if_neg (by omega), List.drop_eq_nil_of_le (by omega), List.drop_eq_nil_of_le (by omega)]; rfl
  | succ d ih =>
    intro k i hi hk
    obtain ⟨k, rfl⟩ : ∃ q, k = q + 1 := ⟨k - 1, by omega⟩
    have h1 : i < a.length := by omega
    have h2 : i < b.length := by omega
    simp only [slices_Equal_byte_byte.l0]
    rw [if_pos (by omega), if_pos (by omega), if_pos (by omega), if_pos (by omega), rd_at h1, rd_at h2]
    have hd := drop_iff h1 h2
    by_cases c : a[i] = b[i]
    · rw [if_pos c, show wrap64 ((i : Int) + 1) = ((i + 1 : Nat) : Int) by unfold wrap64; omega, ih k (i + 1) (by omega) (by omega)]
      exact congrArg some (decide_eq_decide.2 ⟨fun h => hd.2 ⟨c, h⟩, fun h => (hd.1 h).2⟩)
    · rw [if_neg c, decide_eq_false (fun h => c (hd.1 h).1)]
theorem equal_is (a b : List Int) (hl : a.length ≤ 100000) : slices_Equal_byte_byte.f 100001 a b = some (decide (a = b)) := by
  unfold slices_Equal_byte_byte.f
  by_cases c : a.length = b.length
  · rw [if_pos (by omega), show (0 : Int) = ((0 : Nat) : Int) from rfl, equal_loop a b c hl a.length 100001 0 (by omega) (by omega)]; simp
  · rw [if_neg (by omega), decide_eq_false (fun h => c (by rw [h]))]
end Go.Proofs.Ytabmmdpioennfaa.Re
