/- A tree's Order. -/
import Derived.Test.YtjnpbikalamchaaMVis2
import Derived.Laws.EntriesVeiled
set_option linter.unusedVariables false
set_option linter.unusedSimpArgs false
namespace Go.Proofs.Ytjnpbikalamchaa.Tr
open Go.RowKit Go.Maps Go.Proofs.YtjnpbikalamchaaW.PrintWords Go.Proofs.YtjnpbikalamchaaW.PrintLast Go.Proofs.YtjnpbikalamchaaW.PrintMore
attribute [local go_sem] max2_int min2_int run_store_func
section
variable {w : World} {base : Nat} {ok : Nat → Prop} {g : Nat} {S : Int → Bool} {n : Nat} {pa : Int → Int} {ki : Int → List Int} {m : Nat} {nb : Int → Nat} {tag : Nat → Nat} {D : DataW Unit}
set_option maxHeartbeats 1000000 in
theorem order_nil (id : Int) (w : World) :
    Calls Try.prog 24 #[.pointer none, .int .u64 id] w fun e w' => e = .returned (.slice none 0 0) ∧ Below w.heap.size w w' := by
  go_enter Try.func24, Try.ntmps24
  go_wp2_with fail
  refine (has_nil id _).mono ?_
  rintro e w1 ⟨rfl, rfl⟩
  go_wp2
  go_ret
  exact ⟨rfl, below_alloc (Below.refl _ _) _⟩
set_option maxHeartbeats 1000000 in
theorem order_no (h : TX w base ok g S n pa ki m nb tag D) {id : Int} (hu : u64 id) (hs : (decide (id ≠ 0) && S id) = false) :
    Calls Try.prog 24 #[.pointer (some ⟨g, 0, none⟩), .int .u64 id] w fun e w' => e = .returned (.slice none 0 0) ∧ Below w.heap.size w w' := by
  have h1 := has_calls (h.step (w1 := w.alloc (.cells #[.pointer (some ⟨g, 0, none⟩)] 24)) (fun k _ hk => heap_alloc_old _ _ hk)) hu
  rw [hs] at h1
  go_enter Try.func24, Try.ntmps24
  go_wp2_with fail
  refine h1.mono ?_
  rintro e w1 ⟨rfl, rfl⟩
  go_wp2
  go_ret
  exact ⟨rfl, below_alloc (Below.refl _ _) _⟩
set_option maxRecDepth 10000 in
set_option maxHeartbeats 2000000 in
theorem order_yes (h : TX w base ok g S n pa ki m nb tag D) {id : Int} (hs : S id = true) (h0 : id ≠ 0) (hS : ∀ id, S id = true → ∀ c ∈ ki id, S c = true) (N M k : Nat) (hN : ∀ id, (ki id).length ≤ N) (hN2 : N ≤ 1000) (hM : ∀ k id, (ordF ki k id).length ≤ M) (hk : k * (N * M + 1) ≤ 1000000) (hD : Dp ki k id) :
    Calls Try.prog 24 #[.pointer (some ⟨g, 0, none⟩), .int .u64 id] w fun e w' => ∃ v, e = .returned v ∧ (Kd.int .u64).R 27 w' w.heap.size (fun k => v.ownBlock = some k) v (ordF ki k id) ∧ Below w.heap.size w w' := by
  have h1 := has_yes (h.step (w1 := w.alloc (.cells #[.pointer (some ⟨g, 0, none⟩)] 24)) (fun k _ hk => heap_alloc_old _ _ hk)) hs h0
  have hvis := fun (W : World) (hI : VI w.heap.size w.heap.size (w.heap.size + 1 + 1) (w.heap.size + 1) g w [] W (.slice none 0 0)) =>
    callsIn_wide.1 (visit_in h hS N M 1000000 hN hN2 hM (Nat.le_refl _) Fence.wide rfl trivial trivial trivial rfl w.heap.size (w.heap.size + 1 + 1) (w.heap.size + 1) (by omega) k 9 id [] (.slice none 0 0) W hs hD hI (by simpa using hk))
  have hI0 : VI w.heap.size w.heap.size (w.heap.size + 1 + 1) (w.heap.size + 1) g w [] (((w.alloc (.cells #[.pointer (some ⟨g, 0, none⟩)] 24)).alloc (.cells #[.slice none 0 0] 33)).alloc (.cells #[.func (.func 31) #[] #[.pointer (some ⟨w.heap.size, 0, none⟩), .pointer (some ⟨w.heap.size + 1 + 1, 0, none⟩), .pointer (some ⟨w.heap.size + 1, 0, none⟩)]] 64)) (.slice none 0 0) := by
    refine ⟨below_alloc (below_alloc (below_alloc (Below.refl _ _) _) _) _, ?_, ?_, ?_, Kd.R_nil _ _ _ _ _⟩
    · rw [heap_alloc_old _ _ (by simp <;> omega), heap_alloc_old _ _ (by simp <;> omega)]; exact heap_alloc_new _ _
    · have := heap_alloc_new ((w.alloc (.cells #[.pointer (some ⟨g, 0, none⟩)] 24)).alloc (.cells #[.slice none 0 0] 33)) (.cells #[.func (.func 31) #[] #[.pointer (some ⟨w.heap.size, 0, none⟩), .pointer (some ⟨w.heap.size + 1 + 1, 0, none⟩), .pointer (some ⟨w.heap.size + 1, 0, none⟩)]] 64)
      rw [show ((w.alloc (.cells #[.pointer (some ⟨g, 0, none⟩)] 24)).alloc (.cells #[.slice none 0 0] 33)).heap.size = w.heap.size + 1 + 1 by simp] at this
      exact this
    · rw [heap_alloc_old _ _ (by simp)]
      have := heap_alloc_new (w.alloc (.cells #[.pointer (some ⟨g, 0, none⟩)] 24)) (.cells #[.slice none 0 0] 33)
      simpa using this
  have HV := Aside0.mk (hvis _ hI0)
  have hv3 := blk1_0 hI0.bv
  clear hvis hI0
  go_enter Try.func24, Try.ntmps24
  go_wp2_with fail
  refine h1.mono ?_
  rintro e w1 ⟨rfl, rfl⟩
  go_wp2_with (go_at_call 31; go_loud (refine HV.out.mono ?_); rintro e w5 ⟨⟨u, rfl⟩, v5, hI5, hV5⟩; have go5 := blk1_0 hI5.bo; obtain ⟨A5, c5, rfl⟩ := Kd.R_slice hI5.row)
  go_ret
  exact ⟨_, rfl, hI5.row, hI5.hB⟩
end
end Go.Proofs.Ytjnpbikalamchaa.Tr
