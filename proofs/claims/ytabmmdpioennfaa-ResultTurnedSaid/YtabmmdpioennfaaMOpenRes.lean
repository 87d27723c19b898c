/- A list of results that comes in, opened. -/
import Derived.Test.YtabmmdpioennfaaRPure2
import Derived.Test.YtabmmdpioennfaaRows
import Derived.Deep.SlicePairs
import Derived.ChangeArms
import Derived.OpenShut
set_option linter.unusedVariables false
set_option linter.unusedSimpArgs false
namespace Go.Proofs.Ytabmmdpioennfaa.Re
open Go.ChangeShapes Go.WideShapes Go.RowKit Go.Proofs.YtabmmdpioennfaaW.PrintWords Go.Proofs.YtabmmdpioennfaaW.PrintLast Go.Proofs.YtabmmdpioennfaaW.PrintMore
theorem add_one (a : Addr) (j : Nat) (h : j ≠ 0) : a.add j = ⟨a.block, a.off + j, none⟩ := by unfold Addr.add; rw [if_neg h]
theorem b_i64 {z : Int} (h : (Lit.int .i64 z).wf = true) : i64 z := by
  have h1 : IntKind.i64.min = -9223372036854775808 := by rfl
  have h2 : IntKind.i64.max = 9223372036854775807 := by rfl
  simp only [Lit.wf, h1, h2, Bool.and_eq_true, decide_eq_true_eq] at h; exact h
theorem b_u64 {z : Int} (h : (Lit.int .u64 z).wf = true) : u64 z := by
  have h1 : IntKind.u64.min = 0 := by rfl
  have h2 : IntKind.u64.max = 18446744073709551615 := by rfl
  simp only [Lit.wf, h1, h2, Bool.and_eq_true, decide_eq_true_eq] at h; unfold u64; omega
theorem b_u8 {z : Int} (h : (Lit.int .u8 z).wf = true) : 0 ≤ z ∧ z ≤ 255 := by
  have h1 : IntKind.u8.min = 0 := by rfl
  have h2 : IntKind.u8.max = 255 := by rfl
  simp only [Lit.wf, h1, h2, Bool.and_eq_true, decide_eq_true_eq] at h; exact h
theorem open_bytes {H : Type} {enc : TypeId × Value → H} {W : World} {base : Nat} {spare : Nat → Bool} {held : Bool} {v : Value} {fuel : Nat} {y : DataW H × List MemPlace}
    (hf : DataW.trod enc Try.prog W base spare held fuel 41 [v] = some y) : ∃ (A : Option Addr) (c : Nat) (l : List Int), v = .slice A l.length c ∧ l.length ≤ c ∧ (Kd.int .u8).C W A l.length l ∧ bytesB l := by
  rcases Deep.open_slice1 Try.underlying41 (by kernel_rfl) hf with ⟨hcs, _⟩ | ⟨x, len, cap, m, n, V, D, Pl, hcs, _, hl, hm, hmm, _, hx⟩
  · simp at hcs
    exact ⟨none, 0, [], hcs, Nat.le_refl _, ⟨rfl, by simp, fun h => absurd h (by simp)⟩, fun b hb => by simp at hb⟩
  · simp at hcs
    subst hcs
    have hlm : len ≤ m := by rw [hmm]; split <;> omega
    have each : ∀ i, i < len → ∃ q : Int, W.cell? (x.add i) = some (.int .u8 q) ∧ 0 ≤ q ∧ q ≤ 255 := by
      intro i hi
      obtain ⟨e0, t0⟩ := hx i (by omega)
      obtain ⟨z0, h0, _, w0⟩ := DataW.trod_int Try.underlying5 t0
      have h0 : V i = .int .u8 z0 := by simpa using h0
      rw [h0] at e0
      exact ⟨z0, e0, b_u8 w0⟩
    obtain ⟨q, hq⟩ := Deep.choose_lt each
    refine ⟨some x, cap, (List.range len).map q, by simp, by simp; exact hl, ⟨rfl, by simp; unfold maxLen at hm; omega, fun _ => ⟨x, rfl, fun j p hj => ?_⟩⟩, fun y hy => ?_⟩
    · have hjl : j < len := by have := (List.getElem?_eq_some_iff.1 hj).1; simpa using this
      obtain ⟨g0, _⟩ := hq j hjl
      obtain rfl : q j = p := by simpa [hjl] using hj
      refine ⟨[.int .u8 (q j)], rfl, rfl, fun i u hu => ?_⟩
      match i, hu with
      | 0, hu => obtain rfl := Option.some.inj hu; show W.cell? (x.add (j * 1 + 0)) = _; rw [Nat.mul_one, Nat.add_zero]; exact g0
    · obtain ⟨j, hj, rfl⟩ := List.mem_map.1 hy
      exact (hq j (by simpa using hj)).2
theorem open_results {H : Type} {enc : TypeId × Value → H} {W : World} {base : Nat} {spare : Nat → Bool} {held : Bool} {a : Option Addr} {len cap : Nat} {d : DataW H} {p : List MemPlace}
    (h : DataW.Trod enc Try.prog W base spare held 35 (.slice a len cap) d p) : ∃ l : List S43, len = l.length ∧ l.length ≤ cap ∧ Kd.C k43 W a l.length l ∧ wfL l := by
  obtain ⟨fuel, hf⟩ := h
  rcases Deep.open_slice Try.underlying35 hf with ⟨hcs, _⟩ | ⟨x, n, c, m, g, D, Pl, hcs, _, hl, hm, hmm, _, hx⟩
  · simp [Value.cells] at hcs
    obtain ⟨rfl, rfl, rfl⟩ := hcs
    exact ⟨[], rfl, Nat.le_refl _, ⟨rfl, by simp, fun h => absurd h (by simp)⟩, by simp, fun x hx => by simp at hx⟩
  · simp [Value.cells] at hcs
    obtain ⟨rfl, rfl, rfl⟩ := hcs
    have hlm : len ≤ m := by rw [hmm]; split <;> omega
    have hce : Try.prog.cellsOf 43 = 4 := by kernel_rfl
    have hc40 : Try.prog.cellsOf 40 = 1 := by kernel_rfl
    have hc23 : Try.prog.cellsOf 23 = 1 := by kernel_rfl
    have hc41 : Try.prog.cellsOf 41 = 1 := by kernel_rfl
    have hc3 : Try.prog.cellsOf 3 = 1 := by kernel_rfl
    have each : ∀ i, i < len → ∃ (q : S43), (∃ (A : Option Addr) (c : Nat), W.cell? (x.add (i * 4)) = some (.int .i64 q.f0) ∧ W.cell? (x.add (i * 4 + 1)) = some (.int .u64 q.f1) ∧ W.cell? (x.add (i * 4 + 2)) = some (.slice A q.f2.length c) ∧ W.cell? (x.add (i * 4 + 3)) = some (.int .i64 q.f3) ∧ q.f2.length ≤ c ∧ (Kd.int .u8).C W A q.f2.length q.f2) ∧ (i64 q.f0 ∧ u64 q.f1 ∧ i64 q.f3) ∧ bytesB q.f2 := by
      intro i hi
      obtain ⟨cs', h1, h2⟩ := hx i (by omega)
      rw [hce] at h1
      obtain ⟨_, hlen, hcell⟩ := World.cells?_some h1
      obtain ⟨xs, k, hk, hxy, _, hxl, hf⟩ := DataW.trod_struct Try.underlying43 h2
      match xs, hxl, cs', hlen with
      | [y0, y1, y2, y3], _, [v0, v1, v2, v3], _ =>
        have g0 := hf 0 _ rfl
        have g1 := hf 1 _ rfl
        have g2 := hf 2 _ rfl
        have g3 := hf 3 _ rfl
        simp [hc40, hc23, hc41, hc3] at g0 g1 g2 g3
        have e0 := hcell 0 (by omega)
        have e1 := hcell 1 (by omega)
        have e2 := hcell 2 (by omega)
        have e3 := hcell 3 (by omega)
        obtain ⟨z0, hz0, _, w0⟩ := DataW.trod_int Try.underlying40 g0
        obtain ⟨z1, hz1, _, w1⟩ := DataW.trod_int Try.underlying23 g1
        obtain ⟨A, c, l, rfl, hlc, hC, hB⟩ := open_bytes g2
        obtain ⟨z3, hz3, _, w3⟩ := DataW.trod_int Try.underlying3 g3
        obtain rfl : v0 = .int .i64 z0 := by simpa using hz0
        obtain rfl : v1 = .int .u64 z1 := by simpa using hz1
        obtain rfl : v3 = .int .i64 z3 := by simpa using hz3
        have ha : ∀ j, (x.add (i * 4)).add j = x.add (i * 4 + j) := fun j => by
          unfold Addr.add
          by_cases c1 : i * 4 = 0 <;> by_cases c2 : j = 0 <;> simp [c1, c2, Nat.add_assoc] <;> omega
        rw [ha] at e0 e1 e2 e3
        exact ⟨⟨z0, z1, l, z3⟩, ⟨A, c, by simpa using e0, by simpa using e1, by simpa using e2, by simpa using e3, hlc, hC⟩, ⟨b_i64 w0, b_u64 w1, b_i64 w3⟩, hB⟩
    haveI : Inhabited S43 := ⟨z43⟩
    obtain ⟨q, hq⟩ := Deep.choose_lt each
    refine ⟨(List.range len).map q, by simp, by simp; exact hl, ⟨rfl, by simp; unfold maxLen at hm; omega, fun _ => ⟨x, rfl, fun j y hj => ?_⟩⟩, by simp; unfold maxLen at hm; omega, fun y hy => ?_⟩
    · have hjl : j < len := by have := (List.getElem?_eq_some_iff.1 hj).1; simpa using this
      obtain ⟨⟨A, c, g0, g1, g2, g3, hlc, hC⟩, _⟩ := hq j hjl
      obtain rfl : q j = y := by simpa [hjl] using hj
      refine ⟨[.int .i64 (q j).f0, .int .u64 (q j).f1, .slice A (q j).f2.length c, .int .i64 (q j).f3], rfl, k43_mk W (q j) hlc hC, fun i u hu => ?_⟩
      match i, hu with
      | 0, hu => obtain rfl := Option.some.inj hu; exact g0
      | 1, hu => obtain rfl := Option.some.inj hu; exact g1
      | 2, hu => obtain rfl := Option.some.inj hu; exact g2
      | 3, hu => obtain rfl := Option.some.inj hu; exact g3
    · obtain ⟨j, hj, rfl⟩ := List.mem_map.1 hy
      exact (hq j (by simpa using hj)).2
end Go.Proofs.Ytabmmdpioennfaa.Re
