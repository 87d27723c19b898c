/- The argument that is a list of runs, opened: what the walk asks of it, and the numbers' bounds. -/
import Derived.Test.YtccjcaomhijgdaaRLink
import Derived.Test.YtccjcaomhijgdaaRows
import Derived.Deep.SlicePairs
import Derived.ChangeArms
import Derived.OpenShut
set_option linter.unusedVariables false
set_option linter.unusedSimpArgs false
namespace Go.Proofs.Ytccjcaomhijgdaa.Rn
open Go.ChangeShapes Go.WideShapes Go.RowKit Go.Proofs.YtccjcaomhijgdaaW.PrintWords Go.Proofs.YtccjcaomhijgdaaW.PrintLast Go.Proofs.YtccjcaomhijgdaaW.PrintMore
theorem open_runs {H : Type} {enc : TypeId × Value → H} {W : World} {base : Nat} {spare : Nat → Bool} {held : Bool} {a : Option Addr} {len cap : Nat} {d : DataW H} {p : List MemPlace}
    (h : DataW.Trod enc Try.prog W base spare held 22 (.slice a len cap) d p) : ∃ l : List S36, len = l.length ∧ l.length ≤ cap ∧ Kd.C k36 W a l.length l ∧ wfR l := by
  obtain ⟨fuel, hf⟩ := h
  rcases Deep.open_slice_pairs Try.underlying22 Try.underlying36 (by kernel_rfl) rfl rfl (by kernel_rfl) (by kernel_rfl) hf with ⟨hcs, _⟩ | ⟨x, n, c, m, g, V0, V1, D0, D1, P0, P1, hcs, _, hl, hm, hmm, _, hx⟩
  · simp [Value.cells] at hcs
    obtain ⟨rfl, rfl, rfl⟩ := hcs
    exact ⟨[], rfl, Nat.le_refl _, ⟨rfl, by simp, fun h => absurd h (by simp)⟩, fun x hx => by simp at hx⟩
  · simp [Value.cells] at hcs
    obtain ⟨rfl, rfl, rfl⟩ := hcs
    have hlm : len ≤ m := by rw [hmm]; split <;> omega
    have each : ∀ i, i < len → ∃ q : S36, W.cell? (x.add (i * 2)) = some (.int .i64 q.f0) ∧ W.cell? (x.add (i * 2 + 1)) = some (.int .i64 q.f1) ∧ i64 q.f0 ∧ i64 q.f1 := by
      intro i hi
      obtain ⟨e0, e1, t0, t1⟩ := hx i (by omega)
      obtain ⟨z0, h0, _, h0'⟩ := DataW.trod_int Try.underlying3 t0
      obtain ⟨z1, h1, _, h1'⟩ := DataW.trod_int Try.underlying3 t1
      have h0 : V0 i = .int .i64 z0 := by simpa using h0
      have h1 : V1 i = .int .i64 z1 := by simpa using h1
      rw [h0] at e0; rw [h1] at e1
      exact ⟨⟨z0, z1⟩, e0, e1, bounds_i64 h0', bounds_i64 h1'⟩
    haveI : Inhabited S36 := ⟨z36⟩
    obtain ⟨q, hq⟩ := Deep.choose_lt each
    refine ⟨(List.range len).map q, by simp, by simp; exact hl, ⟨rfl, ?_, fun _ => ⟨x, rfl, fun j p hj => ?_⟩⟩, fun y hy => ?_⟩
    · simp; unfold maxLen at hm; omega
    · have hjl : j < len := by have := (List.getElem?_eq_some_iff.1 hj).1; simpa using this
      obtain ⟨g0, g1, _⟩ := hq j hjl
      obtain rfl : q j = p := by simpa [hjl] using hj
      refine ⟨[.int .i64 (q j).f0, .int .i64 (q j).f1], rfl, k36_mk _ _, fun i u hu => ?_⟩
      match i, hu with
      | 0, hu => obtain rfl := Option.some.inj hu; exact g0
      | 1, hu => obtain rfl := Option.some.inj hu; exact g1
    · obtain ⟨j, hj, rfl⟩ := List.mem_map.1 hy
      exact (hq j (by simpa using hj)).2.2
end Go.Proofs.Ytccjcaomhijgdaa.Rn
