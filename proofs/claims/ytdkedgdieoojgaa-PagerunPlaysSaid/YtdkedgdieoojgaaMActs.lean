/- The list of what is done, opened; and the document's example of pages, walked by hand. -/
import Derived.Test.YtdkedgdieoojgaaMPages
import Derived.Test.YtdkedgdieoojgaaRows
import Derived.Deep.SlicePairs
import Derived.ChangeArms
import Derived.OpenShut
set_option linter.unusedVariables false
set_option linter.unusedSimpArgs false
namespace Go.Proofs.Ytdkedgdieoojgaa.Rn
open Go.ChangeShapes Go.WideShapes Go.RowKit Go.Proofs.YtdkedgdieoojgaaW.PrintWords Go.Proofs.YtdkedgdieoojgaaW.PrintLast Go.Proofs.YtdkedgdieoojgaaW.PrintMore
/-- What is done: pages given back, or taken. -/
structure Act3 where
  gv : Bool
  pg : Int
  n : Int
def zA : Act3 := ⟨false, 0, 0⟩
def ActC (w : World) (A : Option Addr) (xs : List Act3) : Prop :=
  0 < xs.length → ∃ ad, A = some ad ∧ ∀ i x, xs[i]? = some x → w.cell? (ad.add (i * 3)) = some (.bool x.gv) ∧ w.cell? ⟨(ad.add (i * 3)).block, (ad.add (i * 3)).off + 1, none⟩ = some (.int .i64 x.pg) ∧ w.cell? ⟨(ad.add (i * 3)).block, (ad.add (i * 3)).off + 2, none⟩ = some (.int .i64 x.n)
def wfA (xs : List Act3) : Prop := ∀ x ∈ xs, i64 x.pg ∧ i64 x.n
theorem ActC.below {w w1 : World} {A : Option Addr} {xs : List Act3} (h : ActC w A xs) (hb : Below w.heap.size w w1) : ActC w1 A xs := fun hp => by
  obtain ⟨ad, hA, hc⟩ := h hp
  refine ⟨ad, hA, fun i x hx => ?_⟩
  obtain ⟨h1, h2, h3⟩ := hc i x hx
  exact ⟨pw_cell_below hb h1, pw_cell_below hb h2, pw_cell_below hb h3⟩
theorem add_one (a : Addr) (j : Nat) (h : j ≠ 0) : a.add j = ⟨a.block, a.off + j, none⟩ := by unfold Addr.add; rw [if_neg h]
theorem open_acts {H : Type} {enc : TypeId × Value → H} {W : World} {base : Nat} {spare : Nat → Bool} {held : Bool} {a : Option Addr} {len cap : Nat} {d : DataW H} {p : List MemPlace}
    (h : DataW.Trod enc Try.prog W base spare held 22 (.slice a len cap) d p) : ∃ l : List Act3, len = l.length ∧ l.length ≤ cap ∧ ActC W a l ∧ wfA l := by
  obtain ⟨fuel, hf⟩ := h
  rcases Deep.open_slice Try.underlying22 hf with ⟨hcs, _⟩ | ⟨x, n, c, m, g, D, Pl, hcs, _, hl, hm, hmm, _, hx⟩
  · simp [Value.cells] at hcs
    obtain ⟨rfl, rfl, rfl⟩ := hcs
    exact ⟨[], rfl, Nat.le_refl _, fun h => absurd h (by simp), fun x hx => by simp at hx⟩
  · simp [Value.cells] at hcs
    obtain ⟨rfl, rfl, rfl⟩ := hcs
    have hlm : len ≤ m := by rw [hmm]; split <;> omega
    have hce : Try.prog.cellsOf 27 = 3 := by kernel_rfl
    have hc4 : Try.prog.cellsOf 4 = 1 := by kernel_rfl
    have hc3 : Try.prog.cellsOf 3 = 1 := by kernel_rfl
    have each : ∀ i, i < len → ∃ q : Act3, W.cell? (x.add (i * 3)) = some (.bool q.gv) ∧ W.cell? ⟨(x.add (i * 3)).block, (x.add (i * 3)).off + 1, none⟩ = some (.int .i64 q.pg) ∧ W.cell? ⟨(x.add (i * 3)).block, (x.add (i * 3)).off + 2, none⟩ = some (.int .i64 q.n) ∧ i64 q.pg ∧ i64 q.n := by
      intro i hi
      obtain ⟨cs', h1, h2⟩ := hx i (by omega)
      rw [hce] at h1
      obtain ⟨_, hlen, hcell⟩ := World.cells?_some h1
      obtain ⟨xs, k, hk, hxy, _, hxl, hf⟩ := DataW.trod_struct Try.underlying27 h2
      match xs, hxl, cs', hlen with
      | [y0, y1, y2], _, [v0, v1, v2], _ =>
        have g0 := hf 0 _ rfl
        have g1 := hf 1 _ rfl
        have g2 := hf 2 _ rfl
        simp [hc4, hc3] at g0 g1 g2
        have e0 := hcell 0 (by omega)
        have e1 := hcell 1 (by omega)
        have e2 := hcell 2 (by omega)
        obtain ⟨b, hb, _⟩ := DataW.trod_bool Try.underlying4 g0
        obtain ⟨z1, hz1, _, w1⟩ := DataW.trod_int Try.underlying3 g1
        obtain ⟨z2, hz2, _, w2⟩ := DataW.trod_int Try.underlying3 g2
        obtain rfl : v0 = .bool b := by simpa using hb
        obtain rfl : v1 = .int .i64 z1 := by simpa using hz1
        obtain rfl : v2 = .int .i64 z2 := by simpa using hz2
        rw [add_one _ 1 (by omega)] at e1
        rw [add_one _ 2 (by omega)] at e2
        exact ⟨⟨b, z1, z2⟩, by simpa [Addr.add] using e0, by simpa using e1, by simpa using e2, bounds_i64 w1, bounds_i64 w2⟩
    haveI : Inhabited Act3 := ⟨zA⟩
    obtain ⟨q, hq⟩ := Deep.choose_lt each
    refine ⟨(List.range len).map q, by simp, by simp; exact hl, fun _ => ⟨x, rfl, fun j y hj => ?_⟩, fun y hy => ?_⟩
    · have hjl : j < len := by have := (List.getElem?_eq_some_iff.1 hj).1; simpa using this
      obtain ⟨g0, g1, g2, _⟩ := hq j hjl
      obtain rfl : q j = y := by simpa [hjl] using hj
      exact ⟨g0, g1, g2⟩
    · obtain ⟨j, hj, rfl⟩ := List.mem_map.1 hy
      exact (hq j (by simpa using hj)).2.2.2
/-! ### the document's example -/
theorem al_fits {l : List S51} {P : Int} (h : rightF l P = true) (hP : P ≤ 1048576) (hl : l.length ≤ 1000) : fitsR l = true := right_fits h (by omega) hl
set_option maxHeartbeats 2000000 in
theorem awake_calls (w : World) : Calls Try.prog 8 #[] w fun e w' => e = .returned (.bool true) ∧ Below w.heap.size w w' := by
  obtain ⟨l0, h0⟩ : ∃ l : List S51, l = [⟨0, 8⟩] := ⟨_, rfl⟩
  obtain ⟨l1, h1⟩ : ∃ l : List S51, l = [⟨3, 5⟩] := ⟨_, rfl⟩
  obtain ⟨l2, h2⟩ : ∃ l : List S51, l = [⟨5, 3⟩] := ⟨_, rfl⟩
  obtain ⟨l3, h3⟩ : ∃ l : List S51, l = [⟨0, 3⟩, ⟨5, 3⟩] := ⟨_, rfl⟩
  obtain ⟨l4, h4⟩ : ∃ l : List S51, l = [⟨1, 2⟩, ⟨5, 3⟩] := ⟨_, rfl⟩
  have f0 : fitsR l0 = true := by rw [h0]; decide
  have f1 : fitsR l1 = true := by rw [h1]; decide
  have f2 : fitsR l2 = true := by rw [h2]; decide
  have f3 : fitsR l3 = true := by rw [h3]; decide
  have f4 : fitsR l4 = true := by rw [h4]; decide
  have b0 : bestF l0 3 = 0 := by rw [h0]; decide
  have b1 : bestF l1 2 = 0 := by rw [h1]; decide
  have b3 : bestF l3 1 = 0 := by rw [h3]; decide
  have t0 : takeAt l0 (0 : Int).toNat 3 = l1 := by rw [h0, h1]; simp [takeAt]
  have t1 : takeAt l1 (0 : Int).toNat 2 = l2 := by rw [h1, h2]; simp [takeAt]
  have t3 : takeAt l3 (0 : Int).toNat 1 = l4 := by rw [h3, h4]; simp [takeAt]
  have p0 : (l0.getD (0 : Int).toNat z51).f0 = 0 := by rw [h0]; rfl
  have p1 : (l1.getD (0 : Int).toNat z51).f0 = 3 := by rw [h1]; rfl
  have p3 : (l3.getD (0 : Int).toNat z51).f0 = 0 := by rw [h3]; rfl
  have g2 : giveOk l2 8 0 3 = true := by rw [h2]; decide
  have g3 : giveF l2 0 3 = l3 := by rw [h2, h3]; simp [giveF, afterI, absorb]
  have n0 : l0.length = 1 := by rw [h0]; rfl
  have n1 : l1.length = 1 := by rw [h1]; rfl
  have n2 : l2.length = 1 := by rw [h2]; rfl
  have n3 : l3.length = 2 := by rw [h3]; rfl
  have T4 : totalF l4 = 5 := by rw [h4]; decide
  have L4 : ∀ m, IsLargest l4 m → m = 3 := by
    rw [h4]
    rintro m (⟨h, _⟩ | ⟨⟨x, hx, hm⟩, hall⟩)
    · simp at h
    · have := hall ⟨5, 3⟩ (by simp)
      simp at hx
      rcases hx with rfl | rfl
      · simp at hm this; omega
      · simpa using hm
  have s1 := Aside0.mk (fun (w : World) (base g : Nat) (h : AL w base g 8 l0 0) => by
    have := take_calls h f0 (by omega) 3 (by omega) (by omega)
    rw [b0, t0, p0, n0] at this; exact this)
  have s2 := Aside0.mk (fun (w : World) (base g : Nat) (h : AL w base g 8 l1 (0 + 1 + (1 : Nat))) => by
    have := take_calls h f1 (by omega) 2 (by omega) (by omega)
    rw [b1, t1, p1, n1] at this; exact this)
  have s3 := Aside0.mk (fun (w : World) (base g : Nat) (h : AL w base g 8 l2 (0 + 1 + (1 : Nat) + 1 + (1 : Nat))) => by
    have := give_calls h f2 (by omega) (by omega) 0 3 g2
    rw [g3, n2] at this; exact this)
  have s4 := Aside0.mk (fun (w : World) (base g : Nat) (h : AL w base g 8 l3 (0 + 1 + (1 : Nat) + 1 + (1 : Nat) + 1 + (1 : Nat))) => by
    have := take_calls h f3 (by omega) 1 (by omega) (by omega)
    rw [b3, t3, p3, n3] at this; exact this)
  have F4 := Aside0.mk f4
  have T4 := Aside0.mk T4
  have L4 := Aside0.mk L4
  have e0 : ([⟨0, min (max (8 : Int) 1) 1048576⟩] : List S51) = l0 := by rw [h0]; rfl
  have e8 : min (max (8 : Int) 1) 1048576 = 8 := by decide
  have E0 := Aside0.mk e0
  have E8 := Aside0.mk e8
  clear f0 f1 f2 f3 f4 b0 b1 b3 t0 t1 t3 p0 p1 p3 g2 g3 n0 n1 n2 n3 h0 h1 h2 h3 h4 e0 e8
  go_enter Try.func8, Try.ntmps8
  go_wp2_with fail
  refine (new_calls 8 _).mono ?_
  rintro e w1 ⟨g, rfl, hA1, hB1⟩
  rw [E0.out, E8.out] at hA1
  have HA1 := Aside0.mk hA1
  have HB1 := Aside0.mk hB1
  clear hA1 hB1
  go_wp2_with fail
  refine (s1.out _ _ _ HA1.out).mono ?_
  rintro e w2 ⟨rfl, hA2, hK⟩
  have HA2 := Aside0.mk hA2
  have HB2 := Aside0.mk (HB1.out.trans hK.b)
  clear hA2 hK
  go_wp2_with fail
  refine (s2.out _ _ _ HA2.out).mono ?_
  rintro e w3 ⟨rfl, hA3, hK⟩
  have HA3 := Aside0.mk hA3
  have HB3 := Aside0.mk (HB2.out.trans hK.b)
  clear hA3 hK
  go_wp2_with fail
  refine (s3.out _ _ _ HA3.out).mono ?_
  rintro e w4 ⟨rfl, hA4, hK⟩
  have HA4 := Aside0.mk hA4
  have HB4 := Aside0.mk (HB3.out.trans hK.b)
  clear hA4 hK
  go_wp2_with fail
  refine (s4.out _ _ _ HA4.out).mono ?_
  rintro e w5 ⟨rfl, hA5, hK⟩
  have HA5 := Aside0.mk hA5
  have HB5 := Aside0.mk (HB4.out.trans hK.b)
  clear hA5 hK
  go_wp2_with fail
  refine (free_calls HA5.out F4.out).mono ?_
  rintro e w6 ⟨rfl, hb⟩
  rw [T4.out]
  have HA6 := Aside0.mk (HA5.out.below hb)
  have HB6 := Aside0.mk (below_step HB5.out hb)
  clear hb
  go_wp2_with fail
  refine (largest_calls HA6.out F4.out).mono ?_
  rintro e w7 ⟨m, rfl, hm, hb⟩
  obtain rfl := L4.out m hm
  have HA7 := Aside0.mk (HA6.out.below hb)
  have HB7 := Aside0.mk (below_step HB6.out hb)
  clear hb hm
  go_wp2_with fail
  refine (ticks_calls HA7.out).mono ?_
  rintro e w8 ⟨rfl, rfl⟩
  go_wp2_with fail
  go_ret
  exact ⟨rfl, HB7.out⟩
end Go.Proofs.Ytdkedgdieoojgaa.Rn
