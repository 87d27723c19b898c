/- slices.Backward over numbers: the iterator and its contract. -/
import Derived.RangeFuncNested
import Derived.RangeFuncBound
import Derived.RangeFuncCalls
import Derived.RangeFuncLeaves
import Derived.RangeFuncBox
import Derived.Shelf.Abstract
import Derived.Shelf.RegionOpen
import Derived.WalkKit
import Derived.OwnWalkIn
import Derived.TacticsInMore
import Derived.LoopNIn
import Derived.LoopIn
import Derived.Test.YtjnpbikalamchaaMPure
set_option linter.unusedVariables false
set_option linter.unusedSimpArgs false
namespace Go.Proofs.Ytjnpbikalamchaa.Tr
open Go.RowKit Go.Maps Go.Shelf Go.Proofs.YtjnpbikalamchaaW.PrintWords Go.Proofs.YtjnpbikalamchaaW.PrintLast Go.Proofs.YtjnpbikalamchaaW.PrintMore
attribute [local go_sem] Oper.semAt_some
/-- What a round that goes on keeps: all below n₀, and the box Bs. -/
def KpB (n₀ Bs : Nat) (W W' : World) : Prop := Below n₀ W W' ∧ ∀ v, W.heap[Bs]? = some (.cells #[v] 33 (0, 0)) → W'.heap[Bs]? = some (.cells #[v] 33 (0, 0))
theorem KpB.t {n₀ Bs : Nat} {A B C : World} (h : KpB n₀ Bs A B) (k : KpB n₀ Bs B C) : KpB n₀ Bs A C := ⟨h.1.trans k.1, fun v hv => k.2 v (h.2 v hv)⟩
theorem KpB.b {n₀ Bs : Nat} {w : World} (hn : n₀ ≤ w.heap.size) (W : World) (l : Nat) (o o' : Obj) (hl : w.heap.size ≤ l) (h : W.heap[l]? = some o) (hc : o.isCells = false) (hw : o.isWalk = false) : KpB n₀ Bs W (W.putObj l o') := by
  refine ⟨belowK_b hn W l o o' hl h hc hw, fun v hv => ?_⟩
  rw [World.putObj_heap_other (by rintro rfl; rw [hv] at h; injection h with h; subst h; simp [Obj.isCells] at hc)]
  exact hv
/-- The items that come: index and number, from the back. -/
structure Items {α : Type} (e0 e1 : α → Int) (full : List α) (zs : List Int) : Prop where
  len : full.length = zs.length
  i0 : ∀ (k : Nat) (h : k < full.length), e0 full[k] = ((zs.length - 1 - k : Nat) : Int)
  i1 : ∀ (k : Nat) (h : k < full.length), e1 full[k] = zs.getD (zs.length - 1 - k) 0
set_option maxRecDepth 100000 in
set_option maxHeartbeats 2000000 in
theorem back1_in {α : Type} {e0 e1 : α → Int} {full : List α} {zs : List Int} (HI : Items e0 e1 full zs) (F : Fence) (n : Nat) (h34 : F.fn 34) (hro : F.round = none) (l Bs n₀ b cap : Nat) (hlen : zs.length ≤ 1000000) (hb : b < n₀) (J Jx : List α → World → Prop)
    (hY : ∀ pre x W, J pre W → pre.length < zs.length → YieldAt F (n - 1) Try.prog l #[.int .i64 (e0 x), .int .u64 (e1 x)] W fun e W' =>
      (e = .returned (.bool true) ∧ J (pre ++ [x]) W' ∧ KpB n₀ Bs W W') ∨ (e = .returned (.bool false) ∧ Jx (pre ++ [x]) W'))
    (W : World) (hBs : W.heap[Bs]? = some (.cells #[.slice (some ⟨b, 0, none⟩) zs.length cap] 33 (0, 0))) (hc : ∀ j, j < zs.length → W.cell? ⟨b, j, none⟩ = some (.int .u64 (zs.getD j 0))) (h0 : J [] W) (hn : 1 ≤ n) :
    CallsIn F n Try.prog 34 #[.func (.yield l) #[] #[], .pointer (some ⟨Bs, 0, none⟩)] W fun e W' => (∃ v, e = .returned v) ∧
      ((∃ ys, ys = full ∧ J ys W') ∨ (∃ pre, pre <+: full ∧ Jx pre W')) := by
  have hBc := blk1_0 hBs
  refine callsIn_of_wp Try.func34 rfl h34 ?_ hro
  simp only [Try.ntmps34, List.size_toArray, List.length_cons, List.length_nil, Nat.reduceAdd, Nat.reduceSub, Array.replicate_succ, Array.replicate_zero, List.push_toArray, List.append_toArray, List.nil_append, List.cons_append]
  gi_wp2
  gi_loopw [3] (fun i wr => ∃ k : Nat, k ≤ zs.length ∧ i = .int .i64 ((zs.length : Int) - 1 - k) ∧ J (full.take k) wr ∧ KpB n₀ Bs W wr)
    (fun i _ => ((intOf i) + 1).toNat)
  case atStart => exact ⟨0, Nat.zero_le _, by simp, by simpa using h0, ⟨Below.refl _ _, fun _ h => h⟩⟩
  case round =>
    obtain ⟨k, hk, rfl, hJs, hnx⟩ := hrel
    have hBw := hnx.2 _ hBs
    have hBw0 := blk1_0 hBw
    by_cases hlt : k < zs.length
    · have hkf : k < full.length := by rw [HI.len]; exact hlt
      have hcx' : wr.cell? ⟨b, zs.length - 1 - k, none⟩ = some (.int .u64 (zs.getD (zs.length - 1 - k) 0)) := (hnx.1.cell (p := ⟨b, zs.length - 1 - k, none⟩) hb).trans (hc _ (by omega))
      obtain ⟨fn, tmps, assign, body, hy, hR⟩ := hY _ full[k] wr hJs (by rw [List.length_take]; omega)
      rw [HI.i0 k hkf, HI.i1 k hkf] at hy
      obtain ⟨i, hi⟩ : ∃ i, i = zs.length - 1 - k := ⟨_, rfl⟩
      have hii : (zs.length : Int) - 1 - k = (i : Nat) := by omega
      rw [← hi, List.getD_eq_getElem?_getD] at hy hcx'
      rw [hii]
      have hi1 : 0 ≤ (i : Int) ∧ (i : Int) < (zs.length : Int) := by omega
      have HII := Aside0.mk hi
      have HI2 := Aside0.mk hii
      clear hi hii
      gi_wp2
      refine hR.mono ?_
      rintro e W3 (⟨rfl, hJ3, hk3⟩ | ⟨rfl, hJx3⟩)
      · gi_wp2
        go_roundw
        case rel => exact ⟨k + 1, by omega, by have := HI2.out; congr 1; omega, by rw [List.take_succ_eq_append_getElem hkf]; exact hJ3, hnx.t hk3⟩
        case measure => simp [intOf]
      · gi_wp2
        refine bodyPost_ret (results_none rfl _ _ _) rfl ?_
        exact ⟨⟨_, rfl⟩, .inr ⟨_, by rw [← List.take_succ_eq_append_getElem hkf]; exact List.take_prefix _ _, hJx3⟩⟩
    · obtain rfl : k = zs.length := by omega
      rw [show (zs.length : Int) - 1 - zs.length = -1 by omega]
      gi_wp2
      go_end0
      exact ⟨⟨_, rfl⟩, .inl ⟨_, rfl, by rw [← HI.len, List.take_length] at hJs; exact hJs⟩⟩
set_option maxRecDepth 100000 in
set_option maxHeartbeats 1000000 in
/-- .. at the nil slice: no round. -/
theorem back1_nil_in {α : Type} (F : Fence) (n : Nat) (h34 : F.fn 34) (hro : F.round = none) (l Bs : Nat) (A : Option Addr) (cap : Nat) (J : List α → World → Prop) (W : World) (hBs : W.heap[Bs]? = some (.cells #[.slice A 0 cap] 33 (0, 0))) (h0 : J [] W) :
    CallsIn F n Try.prog 34 #[.func (.yield l) #[] #[], .pointer (some ⟨Bs, 0, none⟩)] W fun e W' => (∃ v, e = .returned v) ∧ J [] W' := by
  have hBc := blk1_0 hBs
  refine callsIn_of_wp Try.func34 rfl h34 ?_ hro
  simp only [Try.ntmps34, List.size_toArray, List.length_cons, List.length_nil, Nat.reduceAdd, Nat.reduceSub, Array.replicate_succ, Array.replicate_zero, List.push_toArray, List.append_toArray, List.nil_append, List.cons_append]
  gi_wp2
  gi_loopw [3] (fun i wr => i = .int .i64 (-1) ∧ J [] wr) (fun _ _ => 0)
  case atStart => exact ⟨rfl, h0⟩
  case round =>
    obtain ⟨rfl, hJs⟩ := hrel
    gi_wp2
    go_end0
    exact ⟨⟨_, rfl⟩, hJs⟩
set_option maxHeartbeats 1000000 in
/-- slices.Backward(s): the slice value is boxed; the function value captures the box. -/
theorem back_in (F : Fence) (n : Nat) (h32 : F.fn 32) (hro : F.round = none) (a : Option Addr) (len cap : Nat) (w : World) :
    CallsIn F n Try.prog 32 #[.slice a len cap] w fun e w' => e = .returned (.func (.func 34) #[] #[.pointer (some ⟨w.heap.size, 0, none⟩)]) ∧ w' = w.alloc (.cells #[.slice a len cap] 33) := by
  refine callsIn_of_wp Try.func32 rfl h32 ?_ hro
  simp only [Try.ntmps32, List.size_toArray, List.length_cons, List.length_nil, Nat.reduceAdd, Nat.reduceSub, Array.replicate_succ, Array.replicate_zero, List.push_toArray, List.append_toArray, List.nil_append, List.cons_append]
  gi_wp2
  go_ret
  exact ⟨rfl, rfl⟩
/-- The slice value holds the numbers zs in a block below n₀, or is nil. -/
def Nums (n₀ : Nat) (W : World) (sv : Value) (zs : List Int) : Prop :=
  (∃ A cap, sv = .slice A 0 cap ∧ zs = []) ∨ ∃ b cap, sv = .slice (some ⟨b, 0, none⟩) zs.length cap ∧ b < n₀ ∧ ∀ j, j < zs.length → W.cell? ⟨b, j, none⟩ = some (.int .u64 (zs.getD j 0))
theorem Nums.below {n₀ : Nat} {A B : World} (h : Below n₀ A B) {sv : Value} {zs : List Int} : Nums n₀ A sv zs → Nums n₀ B sv zs
  | .inl e => .inl e
  | .inr ⟨b, cap, e, hb, hc⟩ => .inr ⟨b, cap, e, hb, fun j hj => (h.cell (p := ⟨b, j, none⟩) hb).trans (hc j hj)⟩
theorem back_stops {α : Type} {e0 e1 : α → Int} {full : List α} {zs : List Int} (HI : Items e0 e1 full zs) (F : Fence) (n : Nat) (h34 : F.fn 34) (hro : F.round = none) (hn : 1 ≤ n) (Bs n₀ : Nat) (sv : Value) (hlen : zs.length ≤ 1000000) (w : World) (hn₀ : n₀ ≤ w.heap.size)
    (hBs : w.heap[Bs]? = some (.cells #[sv] 33 (0, 0))) (hI : Nums n₀ w sv zs) :
    SeqStopsK F n Try.prog 34 #[.pointer (some ⟨Bs, 0, none⟩)] (fun x : α => #[Value.int .i64 (e0 x), Value.int .u64 (e1 x)]) (KpB n₀ Bs) (fun ys => ys = full) (fun pre => pre <+: full) zs.length w := fun l J Jx W hW _ _ hY h0 => by
  have hB' := (hW.block Bs (lt_blk hBs)).trans hBs
  rcases hI.below (hW.mono hn₀) with ⟨A, cap, rfl, rfl⟩ | ⟨b, cap, rfl, hb, hcs⟩
  · refine (back1_nil_in F n h34 hro l Bs A cap J W hB' h0).mono fun e W' ⟨he, hj⟩ => ⟨he, .inl ⟨_, ?_, hj⟩⟩
    exact (List.eq_nil_of_length_eq_zero HI.len).symm
  · exact back1_in HI F n h34 hro l Bs n₀ b cap hlen hb J Jx hY W hB' hcs h0 hn
end Go.Proofs.Ytjnpbikalamchaa.Tr
