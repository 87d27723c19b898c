/- Which block is whose: a world's blocks by owners, so that what one owner does leaves the others' things as they were. -/
import Derived.Test.YtgcbfbdhibbpdaaMTab
set_option linter.unusedVariables false
set_option linter.unusedSimpArgs false
namespace Go.Proofs.Ytgcbfbdhibbpdaa.Tb
open Go.RowKit Go.Proofs.YtgcbfbdhibbpdaaW.PrintWords Go.Proofs.YtgcbfbdhibbpdaaW.PrintLast Go.Proofs.YtgcbfbdhibbpdaaW.PrintMore
/-- Block k is owner j's. -/
def tg (own : Nat → Nat) (j : Nat) : Nat → Prop := fun k => own k = j
/-- What is new from n on is owner j's. -/
def up (own : Nat → Nat) (n j : Nat) : Nat → Nat := fun k => if k < n then own k else j
theorem up_old {own : Nat → Nat} {n j k : Nat} (h : k < n) : up own n j k = own k := by unfold up; rw [if_pos h]
theorem up_new {own : Nat → Nat} {n j k : Nat} (h : n ≤ k) : up own n j k = j := by unfold up; rw [if_neg (by omega)]
theorem up_fresh (own : Nat → Nat) (n j : Nat) : ∀ k, n ≤ k → tg (up own n j) j k := fun k hk => up_new hk
section
variable {α : Type} {d : Kd α} {e : Nat} {w w' : World} {base : Nat} {own : Nat → Nat} {i j : Nat} {v : Value} {xs : List α}
/-- A row of owner i, told by the new owners. -/
theorem R_up (h : d.R e w base (tg own i) v xs) : d.R e w base (tg (up own w.heap.size j) i) v xs :=
  Kd.R_mono (Kd.R_bound h) (fun k hk => (up_old hk.2.2.1).trans hk.1)
/-- A row of another owner stays. -/
theorem R_pass (h : d.R e w base (tg own i) v xs) (hf : Fr base (tg (up own w.heap.size j) j) w w') (hij : i ≠ j) : d.R e w' base (tg (up own w.heap.size j) i) v xs :=
  Kd.R_mono (Kd.R_step (Kd.R_bound h) (fun k hk hlt => hf.k k hlt (fun e => hij (by have h1 := hk.1; unfold tg at h1 e; rw [up_old hlt] at e; omega)))) (fun k hk => (up_old hk.2.2.1).trans hk.1)
/-- A row of the owner himself, that the call leaves alone (the call has made new blocks alone). -/
theorem R_stay (h : d.R e w base (tg own i) v xs) (hb : Below w.heap.size w w') : d.R e w' base (tg (up own w.heap.size j) i) v xs := Kd.R_below (R_up h) hb
theorem TB_up {g : Nat} {kd : Int} {sl : List S76} {fr : List Int} (h : TB w base (tg own i) g kd sl fr) : TB w base (tg (up own w.heap.size j) i) g kd sl fr := h.mono (fun k hk ho => (up_old hk).trans ho)
theorem TB_pass {g : Nat} {kd : Int} {sl : List S76} {fr : List Int} (h : TB w base (tg own i) g kd sl fr) (hf : Fr base (tg (up own w.heap.size j) j) w w') (hij : i ≠ j) : TB w' base (tg (up own w.heap.size j) i) g kd sl fr :=
  (TB_up h).step (fun k hk hlt => hf.k k hlt (fun e => hij (by unfold tg at hk e; omega)))
/-- A cell of the elder world stays. -/
theorem fr_cell {ok : Nat → Prop} {w0 : World} (h0 : Below w0.heap.size w0 w) (hb : w0.heap.size ≤ base) (hf : Fr base ok w w') : Below w0.heap.size w0 w' :=
  h0.trans (hf.b.mono hb)
/-- A block of owner i stays while owner j acts. -/
theorem blk_pass {b : Nat} {o : Obj} (hb : w.heap[b]? = some o) (ho : own b = i) (hf : Fr base (tg (up own w.heap.size j) j) w w') (hij : i ≠ j) : w'.heap[b]? = some o := by
  have hlt := (Array.getElem?_eq_some_iff.1 hb).1
  rw [hf.k b hlt (fun e => hij (by unfold tg at e; rw [up_old hlt] at e; omega))]
  exact hb
end
end Go.Proofs.Ytgcbfbdhibbpdaa.Tb
