/- A tree's methods that read: node, Has, Parent, Len; slices.Clone; Children. -/
import Derived.Test.YtjnpbikalamchaaMTree
import Derived.WalkSpells
set_option linter.unusedVariables false
set_option linter.unusedSimpArgs false
namespace Go.Proofs.Ytjnpbikalamchaa.Tr
open Go.RowKit Go.Maps Go.Proofs.YtjnpbikalamchaaW.PrintWords Go.Proofs.YtjnpbikalamchaaW.PrintLast Go.Proofs.YtjnpbikalamchaaW.PrintMore
attribute [local go_sem] max2_int min2_int
theorem blk1_0 {w : World} {g : Nat} {x : Value} {t : Nat} (h : w.heap[g]? = some (.cells #[x] t (0, 0))) : w.cell? ⟨g, 0, none⟩ = some x := by simp [World.cell?, h]
theorem blk2_0 {w : World} {g : Nat} {x y : Value} {t : Nat} (h : w.heap[g]? = some (.cells #[x, y] t (0, 0))) : w.cell? ⟨g, 0, none⟩ = some x := by simp [World.cell?, h]
theorem blk2_1 {w : World} {g : Nat} {x y : Value} {t : Nat} (h : w.heap[g]? = some (.cells #[x, y] t (0, 0))) : w.cell? ⟨g, 1, none⟩ = some y := by simp [World.cell?, h]
theorem info27 : (Try.prog.info? 27).map (fun i => (i.zero, i.size, i.bytes)) = some (some (.int .u64 0), 1, 8) := by kernel_rfl
section
variable {w : World} {base : Nat} {ok : Nat → Prop} {g : Nat} {S : Int → Bool} {n : Nat} {pa : Int → Int} {ki : Int → List Int} {m : Nat} {nb : Int → Nat} {tag : Nat → Nat} {D : DataW Unit}
/-! ### node -/
set_option maxHeartbeats 1000000 in
theorem node_yes (h : TX w base ok g S n pa ki m nb tag D) {id : Int} (hs : S id = true) :
    Calls Try.prog 26 #[.pointer (some ⟨g, 0, none⟩), .int .u64 id] w fun e w' => e = .returned (.pointer (some ⟨nb id, 0, none⟩)) ∧ w' = w := by
  have g0 := blk1_0 h.blk
  have hrun := h.map.look h.own (h.rng id hs)
  rw [hs, if_pos rfl] at hrun
  clear h
  go_enter Try.func26, Try.ntmps26
  go_wp2_with fail
  go_ret
  exact ⟨rfl, rfl⟩
set_option maxHeartbeats 1000000 in
theorem node_no (h : TX w base ok g S n pa ki m nb tag D) {id : Int} (hu : u64 id) (hs : S id = false) :
    Calls Try.prog 26 #[.pointer (some ⟨g, 0, none⟩), .int .u64 id] w fun e w' => e = .returned (.pointer none) ∧ w' = w := by
  have g0 := blk1_0 h.blk
  have hrun := h.map.look h.own hu
  rw [hs] at hrun
  simp only [Bool.false_eq_true, if_false] at hrun
  clear h
  go_enter Try.func26, Try.ntmps26
  go_wp2_with fail
  go_ret
  exact ⟨rfl, rfl⟩
set_option maxHeartbeats 1000000 in
theorem node_nil (id : Int) (w : World) : Calls Try.prog 26 #[.pointer none, .int .u64 id] w fun e w' => e = .returned (.pointer none) ∧ w' = w := by
  go_enter Try.func26, Try.ntmps26
  go_wp2_with fail
  go_ret
  exact ⟨rfl, rfl⟩
/-! ### Has -/
set_option maxHeartbeats 1000000 in
theorem has_yes (h : TX w base ok g S n pa ki m nb tag D) {id : Int} (hs : S id = true) (h0 : id ≠ 0) :
    Calls Try.prog 18 #[.pointer (some ⟨g, 0, none⟩), .int .u64 id] w fun e w' => e = .returned (.bool true) ∧ w' = w := by
  have hn : (id == 0) = false := by simpa using h0
  go_enter Try.func18, Try.ntmps18
  go_wp2_with fail
  refine (node_yes h hs).mono ?_
  rintro e w1 ⟨rfl, rfl⟩
  go_wp2
  go_ret
  exact ⟨by show Ending.returned (.bool (id != 0)) = _; rw [bne, hn]; rfl, rfl⟩
set_option maxHeartbeats 1000000 in
theorem has_no (h : TX w base ok g S n pa ki m nb tag D) {id : Int} (hu : u64 id) (hs : S id = false) (h0 : id ≠ 0) :
    Calls Try.prog 18 #[.pointer (some ⟨g, 0, none⟩), .int .u64 id] w fun e w' => e = .returned (.bool false) ∧ w' = w := by
  have hn : (id == 0) = false := by simpa using h0
  go_enter Try.func18, Try.ntmps18
  go_wp2_with fail
  refine (node_no h hu hs).mono ?_
  rintro e w1 ⟨rfl, rfl⟩
  go_wp2
  go_ret
  exact ⟨rfl, rfl⟩
set_option maxHeartbeats 1000000 in
theorem has_zero (p : Value) (w : World) :
    Calls Try.prog 18 #[p, .int .u64 0] w fun e w' => e = .returned (.bool false) ∧ w' = w := by
  go_enter Try.func18, Try.ntmps18
  go_wp2_with fail
  go_ret
  exact ⟨rfl, rfl⟩
theorem has_calls (h : TX w base ok g S n pa ki m nb tag D) {id : Int} (hu : u64 id) :
    Calls Try.prog 18 #[.pointer (some ⟨g, 0, none⟩), .int .u64 id] w fun e w' => e = .returned (.bool (decide (id ≠ 0) && S id)) ∧ w' = w := by
  by_cases h0 : id = 0
  · subst h0; exact has_zero _ _
  · cases hs : S id with
    | true => simpa [h0] using has_yes h hs h0
    | false => simpa [h0] using has_no h hu hs h0
theorem has_nil_s {id : Int} (h0 : id ≠ 0) (w : World) :
    Calls Try.prog 18 #[.pointer none, .int .u64 id] w fun e w' => e = .returned (.bool false) ∧ w' = w := by
  have hn : (id == 0) = false := by simpa using h0
  go_enter Try.func18, Try.ntmps18
  go_wp2_with fail
  refine (node_nil id w).mono ?_
  rintro e w1 ⟨rfl, rfl⟩
  go_wp2
  go_ret
  exact ⟨rfl, rfl⟩
theorem has_nil (id : Int) (w : World) :
    Calls Try.prog 18 #[.pointer none, .int .u64 id] w fun e w' => e = .returned (.bool false) ∧ w' = w := by
  by_cases h0 : id = 0
  · subst h0; exact has_zero _ _
  · exact has_nil_s h0 w
/-! ### Parent -/
set_option maxHeartbeats 1000000 in
theorem parent_yes (h : TX w base ok g S n pa ki m nb tag D) {id : Int} (hs : S id = true) :
    Calls Try.prog 20 #[.pointer (some ⟨g, 0, none⟩), .int .u64 id] w fun e w' => e = .returned (.int .u64 (pa id)) ∧ w' = w := by
  obtain ⟨v, hb, _⟩ := h.node id hs
  have g0 := blk2_0 hb
  go_enter Try.func20, Try.ntmps20
  go_wp2_with fail
  refine (node_yes h hs).mono ?_
  rintro e w1 ⟨rfl, rfl⟩
  go_wp2
  go_ret
  exact ⟨rfl, rfl⟩
set_option maxHeartbeats 1000000 in
theorem parent_no (h : TX w base ok g S n pa ki m nb tag D) {id : Int} (hu : u64 id) (hs : S id = false) :
    Calls Try.prog 20 #[.pointer (some ⟨g, 0, none⟩), .int .u64 id] w fun e w' => e = .returned (.int .u64 0) ∧ w' = w := by
  go_enter Try.func20, Try.ntmps20
  go_wp2_with fail
  refine (node_no h hu hs).mono ?_
  rintro e w1 ⟨rfl, rfl⟩
  go_wp2
  go_ret
  exact ⟨rfl, rfl⟩
theorem parent_calls (h : TX w base ok g S n pa ki m nb tag D) {id : Int} (hu : u64 id) :
    Calls Try.prog 20 #[.pointer (some ⟨g, 0, none⟩), .int .u64 id] w fun e w' => e = .returned (.int .u64 (if S id then pa id else 0)) ∧ w' = w := by
  cases hs : S id with
  | true => simpa using parent_yes h hs
  | false => simpa using parent_no h hu hs
set_option maxHeartbeats 1000000 in
theorem parent_nil (id : Int) (w : World) :
    Calls Try.prog 20 #[.pointer none, .int .u64 id] w fun e w' => e = .returned (.int .u64 0) ∧ w' = w := by
  go_enter Try.func20, Try.ntmps20
  go_wp2_with fail
  refine (node_nil id w).mono ?_
  rintro e w1 ⟨rfl, rfl⟩
  go_wp2
  go_ret
  exact ⟨rfl, rfl⟩
/-! ### Len -/
set_option maxHeartbeats 1000000 in
theorem len_calls (h : TX w base ok g S n pa ki m nb tag D) (hn : n ≤ 1000000) :
    Calls Try.prog 17 #[.pointer (some ⟨g, 0, none⟩)] w fun e w' => e = .returned (.int .i64 ((n : Int) - 1)) ∧ w' = w := by
  have g0 := blk1_0 h.blk
  have hlen := h.own.len Try.underlying55
  rw [h.map.size] at hlen
  clear h
  go_enter Try.func17, Try.ntmps17
  go_wp2_with fail
  go_ret
  exact ⟨rfl, rfl⟩
set_option maxHeartbeats 1000000 in
theorem len_nil (w : World) : Calls Try.prog 17 #[.pointer none] w fun e w' => e = .returned (.int .i64 0) ∧ w' = w := by
  go_enter Try.func17, Try.ntmps17
  go_wp2_with fail
  go_ret
  exact ⟨rfl, rfl⟩
end
/-! ### slices.Clone -/
theorem R_none_made (w : World) : (Kd.int .u64).R 27 (w.alloc (.cells #[] 27)) w.heap.size (fun _ => True) (.slice (some ⟨w.heap.size, 0, none⟩) 0 0) [] :=
  ⟨fun _ _ => trivial, [], World.ownsRow_made w #[] 0 (Nat.le_refl _) (by simp [maxLen]) rfl, Reps.none _ _⟩
set_option maxHeartbeats 1000000 in
theorem clone_some (A : Addr) (c : Nat) (l : List Int) (w : World) (hC : (Kd.int .u64).C w (some A) l.length l) (hc : l.length ≤ c) (hl : l.length ≤ 100000) :
    Calls Try.prog 30 #[.slice (some A) l.length c] w fun e w' => ∃ v, e = .returned v ∧ (Kd.int .u64).R 27 w' w.heap.size (fun _ => True) v l ∧ Below w.heap.size w w' := by
  have hnil : ∀ W : World, (binOp .eql 33 (.slice (some A) l.length c) (.slice none 0 0)).run Try.prog W = .ok (.bool false) W := fun W => Lib.run_eql_slice_nil W 33 27 (some A) l.length c 0 0 Try.underlying33
  have HC := Aside0.mk hC
  clear hC
  go_enter Try.func30, Try.ntmps30
  go_wp2_with (at_builtin; refine Kd.R_append_rows (w0 := w) (Kd.int .u64) (Rr := (Kd.int .u64).K w) w.heap.size rfl _ _ 33 27 _ 8 rfl Try.underlying33 info27 rfl (by decide) (by decide) (.slice (some ⟨w.heap.size, 0, none⟩) 0 0) [] l (some A) l.length c (fun _ => True) (fun _ => False) rfl rfl ?h0 ?h1 ?h2 ?h3 (fun _ _ => trivial) ?h35 ?h4 ?h5 ?_)
  case h0 => exact R_none_made w
  case h1 => exact Kd.C_below HC.out (below_alloc (Below.refl _ _) _)
  case h2 => intro x cs hx; exact hx
  case h3 => exact fun _ h => h.elim
  case h35 => exact below_alloc (Below.refl _ _) _
  case h4 => simp
  case h5 => simp; omega
  intro v1 w3 hR hB3 _ _
  have HR := Aside0.mk hR
  have HB := Aside0.mk hB3
  clear hR hB3 hnil
  go_wp2
  go_ret
  exact ⟨_, rfl, by simpa using HR.out, HB.out⟩
set_option maxHeartbeats 1000000 in
theorem clone_none (c : Nat) (w : World) :
    Calls Try.prog 30 #[.slice none 0 c] w fun e w' => e = .returned (.slice none 0 0) ∧ Below w.heap.size w w' := by
  have hnil : ∀ W : World, (binOp .eql 33 (.slice none 0 c) (.slice none 0 0)).run Try.prog W = .ok (.bool true) W := fun W => Lib.run_eql_slice_nil W 33 27 none 0 c 0 0 Try.underlying33
  go_enter Try.func30, Try.ntmps30
  go_wp2_with fail
  go_ret
  exact ⟨rfl, Below.refl _ _⟩
/-- Clone of what reads as l. -/
theorem clone_calls {A : Option Addr} {c : Nat} {l : List Int} {w : World} (hC : (Kd.int .u64).C w A l.length l) (hc : l.length ≤ c) (hl : l.length ≤ 100000) :
    Calls Try.prog 30 #[.slice A l.length c] w fun e w' => ∃ v, e = .returned v ∧ (Kd.int .u64).R 27 w' w.heap.size (fun _ => True) v l ∧ Below w.heap.size w w' := by
  cases A with
  | some A => exact clone_some A c l w hC hc hl
  | none =>
    have hl0 : l = [] := by
      rcases Nat.eq_zero_or_pos l.length with h | h
      · exact List.eq_nil_of_length_eq_zero h
      · obtain ⟨_, he, _⟩ := hC.2.2 h; cases he
    subst hl0
    refine (clone_none c w).mono ?_
    rintro e w1 ⟨rfl, hb⟩
    exact ⟨_, rfl, Kd.R_nil _ _ _ _ _, hb⟩
/-! ### Children -/
section
variable {w : World} {base : Nat} {ok : Nat → Prop} {g : Nat} {S : Int → Bool} {n : Nat} {pa : Int → Int} {ki : Int → List Int} {m : Nat} {nb : Int → Nat} {tag : Nat → Nat} {D : DataW Unit}
set_option maxHeartbeats 1000000 in
theorem children_yes (h : TX w base ok g S n pa ki m nb tag D) {id : Int} (hs : S id = true) (hl : (ki id).length ≤ 100000) :
    Calls Try.prog 22 #[.pointer (some ⟨g, 0, none⟩), .int .u64 id] w fun e w' => ∃ v, e = .returned v ∧ (Kd.int .u64).R 27 w' w.heap.size (fun _ => True) v (ki id) ∧ Below w.heap.size w w' := by
  obtain ⟨v, hb, _, _, _, hR⟩ := h.node id hs
  obtain ⟨A, c, rfl⟩ := Kd.R_slice hR
  obtain ⟨_, hc, hC⟩ := Kd.R_reads' hR
  have g1 := blk2_1 hb
  have hcl := clone_calls hC hc hl
  clear hb hR hC
  go_enter Try.func22, Try.ntmps22
  go_wp2_with fail
  refine (node_yes h hs).mono ?_
  rintro e w1 ⟨rfl, rfl⟩
  go_wp2_with fail
  refine hcl.mono ?_
  rintro e w1 ⟨v, rfl, hR, hb⟩
  go_wp2
  go_ret
  exact ⟨_, rfl, hR, hb⟩
set_option maxHeartbeats 1000000 in
theorem children_no (h : TX w base ok g S n pa ki m nb tag D) {id : Int} (hu : u64 id) (hs : S id = false) :
    Calls Try.prog 22 #[.pointer (some ⟨g, 0, none⟩), .int .u64 id] w fun e w' => ∃ v, e = .returned v ∧ (Kd.int .u64).R 27 w' w.heap.size (fun _ => True) v [] ∧ Below w.heap.size w w' := by
  go_enter Try.func22, Try.ntmps22
  go_wp2_with fail
  refine (node_no h hu hs).mono ?_
  rintro e w1 ⟨rfl, rfl⟩
  go_wp2
  go_ret
  exact ⟨_, rfl, Kd.R_nil _ _ _ _ _, Below.refl _ _⟩
set_option maxHeartbeats 1000000 in
theorem children_nil (id : Int) (w : World) :
    Calls Try.prog 22 #[.pointer none, .int .u64 id] w fun e w' => e = .returned (.slice none 0 0) ∧ w' = w := by
  go_enter Try.func22, Try.ntmps22
  go_wp2_with fail
  refine (node_nil id w).mono ?_
  rintro e w1 ⟨rfl, rfl⟩
  go_wp2
  go_ret
  exact ⟨rfl, rfl⟩
theorem children_calls (h : TX w base ok g S n pa ki m nb tag D) {id : Int} (hu : u64 id) (hl : (ki id).length ≤ 100000) :
    Calls Try.prog 22 #[.pointer (some ⟨g, 0, none⟩), .int .u64 id] w fun e w' => ∃ v, e = .returned v ∧ (Kd.int .u64).R 27 w' w.heap.size (fun _ => True) v (if S id then ki id else []) ∧ Below w.heap.size w w' := by
  cases hs : S id with
  | true => simpa using children_yes h hs hl
  | false => simpa using children_no h hu hs
end
end Go.Proofs.Ytjnpbikalamchaa.Tr
