/- Two lists of handles that are one: the document's Same says so. -/
import Derived.Test.YtgcbfbdhibbpdaaTbx11
import Derived.Test.YtgcbfbdhibbpdaaMFrame
set_option linter.unusedVariables false
set_option linter.unusedSimpArgs false
namespace Go.Proofs.Ytgcbfbdhibbpdaa.Tb
open Go.RowKit Go.Proofs.YtgcbfbdhibbpdaaW.PrintWords Go.Proofs.YtgcbfbdhibbpdaaW.PrintLast Go.Proofs.YtgcbfbdhibbpdaaW.PrintMore
theorem same_l0 (l : List Int) (hl : l.length ≤ 1000000) (d : Nat) : ∀ (k i : Nat), l.length - i = d → i ≤ l.length → d < k → steadingref13_Same.l0 k l l (i : Int) = some true := by
  induction d with
  | zero =>
    intro k i h1 h2 h3
    obtain ⟨k, rfl⟩ : ∃ m, k = m + 1 := ⟨k - 1, by omega⟩
    unfold steadingref13_Same.l0
    rw [if_neg (by omega)]
  | succ d ih =>
    intro k i h1 h2 h3
    obtain ⟨k, rfl⟩ : ∃ m, k = m + 1 := ⟨k - 1, by omega⟩
    unfold steadingref13_Same.l0
    rw [if_pos (by omega), if_pos (by omega), if_pos (by omega), if_pos rfl]
    have e : wrap64 ((i : Int) + 1) = ((i + 1 : Nat) : Int) := by unfold wrap64; omega
    rw [e]
    exact ih k (i + 1) (by omega) (by omega) (by omega)
theorem same_refl (l : List Int) (hl : l.length ≤ 1000000) : steadingref13_Same.f (l.length + 1) l l = some true := by
  unfold steadingref13_Same.f
  rw [if_pos rfl]
  exact same_l0 l hl l.length (l.length + 1) 0 (by omega) (by omega) (by omega)
theorem same_rows {W : World} {b1 b2 : Nat} {ok1 ok2 : Nat → Prop} {v1 v2 : Value} {xs : List Int} (h1 : (Kd.int .u64).R 27 W b1 ok1 v1 xs) (h2 : (Kd.int .u64).R 27 W b2 ok2 v2 xs) (hl : xs.length ≤ 1000000) :
    Calls Try.prog 27 #[v1, v2] W fun e w' => e = .returned (.bool true) ∧ Below W.heap.size W w' := by
  obtain ⟨A1, c1, rfl, hc1, hC1⟩ := Kd.R_reads h1
  obtain ⟨A2, c2, rfl, hc2, hC2⟩ := Kd.R_reads h2
  exact (steadingref13_Same.calls _ A1 c1 xs A2 c2 xs true W hC1 hc1 hC2 hc2 (same_refl xs hl)).mono fun e w' ⟨he, hd⟩ => ⟨he, hd.below⟩
end Go.Proofs.Ytgcbfbdhibbpdaa.Tb
