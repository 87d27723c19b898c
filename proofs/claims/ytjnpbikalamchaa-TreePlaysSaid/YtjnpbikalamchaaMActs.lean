/- The script of what is done, opened. -/
import Derived.Test.YtjnpbikalamchaaMPSAll
import Derived.Test.YtjnpbikalamchaaRows
import Derived.Deep.SlicePairs
import Derived.ChangeArms
import Derived.OpenShut
import Derived.ChangeOld
set_option linter.unusedVariables false
set_option linter.unusedSimpArgs false
namespace Go.Proofs.Ytjnpbikalamchaa.Tr
open Go.ChangeShapes Go.WideShapes Go.RowKit Go.Proofs.YtjnpbikalamchaaW.PrintWords Go.Proofs.YtjnpbikalamchaaW.PrintLast Go.Proofs.YtjnpbikalamchaaW.PrintMore
/-- What is done: with which thing, its parent, how many. -/
structure Act4 where
  op : Int
  id : Int
  pr : Int
  v : Int
def Act4.ok (a : Act4) : Prop := (0 ≤ a.op ∧ a.op ≤ 255) ∧ (0 ≤ a.id ∧ a.id ≤ 18446744073709551615) ∧ (0 ≤ a.pr ∧ a.pr ≤ 18446744073709551615) ∧ -9223372036854775808 ≤ a.v ∧ a.v ≤ 9223372036854775807
def ActC (w : World) (A : Option Addr) (xs : List Act4) : Prop :=
  0 < xs.length → ∃ ad, A = some ad ∧ ∀ i x, xs[i]? = some x → w.cell? (ad.add (i * 4)) = some (.int .u8 x.op) ∧ w.cell? ⟨(ad.add (i * 4)).block, (ad.add (i * 4)).off + 1, none⟩ = some (.int .u64 x.id) ∧ w.cell? ⟨(ad.add (i * 4)).block, (ad.add (i * 4)).off + 2, none⟩ = some (.int .u64 x.pr) ∧ w.cell? ⟨(ad.add (i * 4)).block, (ad.add (i * 4)).off + 3, none⟩ = some (.int .i64 x.v)
theorem add_one (a : Addr) (j : Nat) (h : j ≠ 0) : a.add j = ⟨a.block, a.off + j, none⟩ := by unfold Addr.add; rw [if_neg h]
set_option maxRecDepth 10000 in
theorem open_acts {H : Type} {enc : TypeId × Value → H} {W : World} {base : Nat} {spare : Nat → Bool} {held : Bool} {a : Option Addr} {len cap : Nat} {d : DataW H} {p : List MemPlace}
    (h : DataW.Trod enc Try.prog W base spare held 22 (.slice a len cap) d p) : ∃ l : List Act4, len = l.length ∧ l.length ≤ cap ∧ ActC W a l ∧ ∀ q ∈ l, q.ok := by
  obtain ⟨fuel, hf⟩ := h
  rcases Deep.open_slice Try.underlying22 hf with ⟨hcs, _⟩ | ⟨x, n, c, m, g, D, Pl, hcs, _, hl, hm, hmm, _, hx⟩
  · simp [Value.cells] at hcs
    obtain ⟨rfl, rfl, rfl⟩ := hcs
    exact ⟨[], rfl, Nat.le_refl _, fun h => absurd h (by simp), fun x hx => by simp at hx⟩
  · simp [Value.cells] at hcs
    obtain ⟨rfl, rfl, rfl⟩ := hcs
    have hlm : len ≤ m := by rw [hmm]; split <;> omega
    have hce : Try.prog.cellsOf 29 = 4 := by kernel_rfl
    have hc5 : Try.prog.cellsOf 5 = 1 := by kernel_rfl
    have hc27 : Try.prog.cellsOf 27 = 1 := by kernel_rfl
    have hc3 : Try.prog.cellsOf 3 = 1 := by kernel_rfl
    have each : ∀ i, i < len → ∃ q : Act4, W.cell? (x.add (i * 4)) = some (.int .u8 q.op) ∧ W.cell? ⟨(x.add (i * 4)).block, (x.add (i * 4)).off + 1, none⟩ = some (.int .u64 q.id) ∧ W.cell? ⟨(x.add (i * 4)).block, (x.add (i * 4)).off + 2, none⟩ = some (.int .u64 q.pr) ∧ W.cell? ⟨(x.add (i * 4)).block, (x.add (i * 4)).off + 3, none⟩ = some (.int .i64 q.v) ∧ q.ok := by
      intro i hi
      obtain ⟨cs', h1, h2⟩ := hx i (by omega)
      rw [hce] at h1
      obtain ⟨_, hlen, hcell⟩ := World.cells?_some h1
      obtain ⟨xs, k, hk, hxy, _, hxl, hf⟩ := DataW.trod_struct Try.underlying29 h2
      match xs, hxl, cs', hlen with
      | [y0, y1, y2, y3], _, [v0, v1, v2, v3], _ =>
        have g0 := hf 0 _ rfl
        have g1 := hf 1 _ rfl
        have g2 := hf 2 _ rfl
        have g3 := hf 3 _ rfl
        simp [hc5, hc27, hc3] at g0 g1 g2 g3
        have e0 := hcell 0 (by omega)
        have e1 := hcell 1 (by omega)
        have e2 := hcell 2 (by omega)
        have e3 := hcell 3 (by omega)
        obtain ⟨z0, hz0, _, w0⟩ := DataW.trod_int Try.underlying5 g0
        obtain ⟨z1, hz1, _, w1⟩ := DataW.trod_int Try.underlying27 g1
        obtain ⟨z2, hz2, _, w2⟩ := DataW.trod_int Try.underlying27 g2
        obtain ⟨z3, hz3, _, w3⟩ := DataW.trod_int Try.underlying3 g3
        obtain rfl : v0 = .int .u8 z0 := by simpa using hz0
        obtain rfl : v1 = .int .u64 z1 := by simpa using hz1
        obtain rfl : v2 = .int .u64 z2 := by simpa using hz2
        obtain rfl : v3 = .int .i64 z3 := by simpa using hz3
        rw [add_one _ 1 (by omega)] at e1
        rw [add_one _ 2 (by omega)] at e2
        rw [add_one _ 3 (by omega)] at e3
        exact ⟨⟨z0, z1, z2, z3⟩, by simpa [Addr.add] using e0, by simpa using e1, by simpa using e2, by simpa using e3, bounds_u8 w0, bounds_u64 w1, bounds_u64 w2, bounds_i64 w3⟩
    haveI : Inhabited Act4 := ⟨⟨0, 0, 0, 0⟩⟩
    obtain ⟨q, hq⟩ := Deep.choose_lt each
    refine ⟨(List.range len).map q, by simp, by simp; exact hl, fun _ => ⟨x, rfl, fun j y hj => ?_⟩, fun y hy => ?_⟩
    · have hjl : j < len := by have := (List.getElem?_eq_some_iff.1 hj).1; simpa using this
      obtain ⟨g0, g1, g2, g3, _⟩ := hq j hjl
      obtain rfl : q j = y := by simpa [hjl] using hj
      exact ⟨g0, g1, g2, g3⟩
    · obtain ⟨j, hj, rfl⟩ := List.mem_map.1 hy
      exact (hq j (by simpa using hj)).2.2.2.2
end Go.Proofs.Ytjnpbikalamchaa.Tr
