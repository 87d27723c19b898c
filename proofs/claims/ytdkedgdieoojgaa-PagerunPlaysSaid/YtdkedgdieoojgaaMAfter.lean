/- runs.after: the place of the first run that does not end ahead of a page, as a plain function; what the printed loop comes to. -/
import Derived.Test.YtdkedgdieoojgaaRnx18
import Derived.Test.YtdkedgdieoojgaaMTake
set_option linter.unusedVariables false
set_option linter.unusedSimpArgs false
namespace Go.Proofs.Ytdkedgdieoojgaa.Rn
open Go.RowKit Go.Proofs.YtdkedgdieoojgaaW.PrintWords Go.Proofs.YtdkedgdieoojgaaW.PrintLast Go.Proofs.YtdkedgdieoojgaaW.PrintMore
def afterI : List S51 → Int → Nat
  | [], _ => 0
  | x :: t, p => if p ≤ x.f0 + x.f1 then 0 else afterI t p + 1
theorem afterI_le (l : List S51) (p : Int) : afterI l p ≤ l.length := by
  induction l with
  | nil => exact Nat.le_refl _
  | cons x t ih => unfold afterI; split <;> simp; omega
theorem after_loop (l : List S51) (p : Int) (hf : fitsR l = true) (d : Nat) : ∀ (k i : Nat), i + d = l.length → d < k → runs_after.l0 k l p l (l.length : Int) (i : Int) = some ((i : Int) + afterI (l.drop i) p) := by
  have hl := fitsR_len hf
  induction d with
  | zero =>
    intro k i hi hk
    obtain ⟨k, rfl⟩ : ∃ m, k = m + 1 := ⟨k - 1, by omega⟩
    simp only [runs_after.l0]
    rw [if_neg (by omega), List.drop_eq_nil_of_le (by omega)]
    have : i = l.length := by omega
    subst this; simp [afterI]
  | succ d ih =>
    intro k i hi hk
    obtain ⟨k, rfl⟩ : ∃ m, k = m + 1 := ⟨k - 1, by omega⟩
    have e : wrap64 ((i : Int) + 1) = ((i + 1 : Nat) : Int) := by unfold wrap64; omega
    have h := ih k (i + 1) (by omega) (by omega)
    have hil : i < l.length := by omega
    have hx : rd_T51 l i = l[i] := by unfold rd_T51; simp [List.getD_eq_getElem?_getD, hil]
    have hm := fitsR_mem hf (List.getElem_mem hil)
    simp only [runs_after.l0]
    rw [if_pos (by omega), if_pos (by omega), if_pos (by omega), hx]
    have e2 : runs_end.f l[i].f0 l[i].f1 = some (l[i].f0 + l[i].f1) := by unfold runs_end.f wrap64; congr 1; omega
    rw [e2, List.drop_eq_getElem_cons hil]
    simp only [Option.bind_some, afterI]
    by_cases c : p ≤ l[i].f0 + l[i].f1
    · rw [if_pos (by omega), if_pos c]; simp
    · rw [if_neg (by omega), if_neg c, e, h]; congr 1; omega
theorem after_is (l : List S51) (p : Int) (hf : fitsR l = true) : runs_after.f (l.length + 1) l p = some (afterI l p : Int) := by
  have := after_loop l p hf l.length (l.length + 1) 0 (by omega) (by omega)
  simpa [runs_after.f] using this
end Go.Proofs.Ytdkedgdieoojgaa.Rn
