/- A table of numbers, its block and its rows; which slot a handle tells (the methods live, Get), walked by hand. -/
import Derived.Test.YtgcbfbdhibbpdaaTbx13
import Derived.Test.YtgcbfbdhibbpdaaMUnpack
import Derived.Test.YtgcbfbdhibbpdaaHPlain
set_option linter.unusedVariables false
set_option linter.unusedSimpArgs false
namespace Go.Proofs.Ytgcbfbdhibbpdaa.Tb
open Go.RowKit Go.Proofs.YtgcbfbdhibbpdaaW.PrintWords Go.Proofs.YtgcbfbdhibbpdaaW.PrintLast Go.Proofs.YtgcbfbdhibbpdaaW.PrintMore
attribute [local go_sem] max2_int min2_int
/-! ### what a call leaves as it was -/
structure Fr (base : Nat) (ok : Nat → Prop) (w w' : World) : Prop where
  b : Below base w w'
  k : ∀ i, i < w.heap.size → ¬ ok i → w'.heap[i]? = w.heap[i]?
theorem Fr.refl (base : Nat) (ok : Nat → Prop) (w : World) : Fr base ok w w := ⟨Below.refl _ _, fun _ _ _ => rfl⟩
theorem Fr.of_below {base : Nat} {ok : Nat → Prop} {w w1 : World} (h : Below w.heap.size w w1) (hb : base ≤ w.heap.size) : Fr base ok w w1 := ⟨h.mono hb, fun i hi _ => h.block i hi⟩
theorem Fr.trans {base : Nat} {ok : Nat → Prop} {w w1 w2 : World} (h : Fr base ok w w1) (k : Fr base ok w1 w2) : Fr base ok w w2 :=
  ⟨h.b.trans k.b, fun i hi ho => (k.k i (Nat.lt_of_lt_of_le hi h.b.size) ho).trans (h.k i hi ho)⟩
theorem Fr.set {base : Nat} {ok : Nat → Prop} {w w1 : World} (h : Fr base ok w w1) {b : Nat} (hb : base ≤ b) (ho : ok b) (j : Nat) (u : Value) : Fr base ok w (w1.setCell ⟨b, j, none⟩ u) :=
  ⟨h.b.setCell (p := ⟨b, j, none⟩) hb u, fun i hi hn => (Below.heap_setCell _ _ _ _ (fun e => hn (by rw [show i = b from e]; exact ho))).trans (h.k i hi hn)⟩
theorem Fr.drew {base : Nat} {ok : Nat → Prop} {w w1 : World} (h : Fr base ok w w1) : Fr base ok w w1.drew := ⟨below_drew h.b, h.k⟩
theorem Fr.mono {base : Nat} {ok ok' : Nat → Prop} {w w1 : World} (h : Fr base ok w w1) (ho : ∀ k, ok k → ok' k) : Fr base ok' w w1 := ⟨h.b, fun i hi hn => h.k i hi (fun h => hn (ho i h))⟩
/-! ### a table -/
def TB (w : World) (base : Nat) (ok : Nat → Prop) (g : Nat) (kd : Int) (sl : List S76) (fr : List Int) : Prop :=
  (ok g ∧ base ≤ g) ∧ ∃ vs vf, w.heap[g]? = some (.cells #[.int .i64 kd, vs, vf] 74 (0, 0)) ∧ k76.R 76 w base ok vs sl ∧ (Kd.int .i64).R 3 w base ok vf fr
theorem TB.lt {w : World} {base : Nat} {ok : Nat → Prop} {g : Nat} {kd : Int} {sl : List S76} {fr : List Int} (h : TB w base ok g kd sl fr) : g < w.heap.size := by
  obtain ⟨_, _, _, h, _⟩ := h
  exact (Array.getElem?_eq_some_iff.1 h).1
theorem TB.step {w w1 : World} {base : Nat} {ok : Nat → Prop} {g : Nat} {kd : Int} {sl : List S76} {fr : List Int} (h : TB w base ok g kd sl fr) (hm : ∀ k, ok k → k < w.heap.size → w1.heap[k]? = w.heap[k]?) : TB w1 base ok g kd sl fr := by
  have hl := h.lt
  obtain ⟨h0, vs, vf, hg, h1, h2⟩ := h
  exact ⟨h0, vs, vf, (hm g h0.1 hl).trans hg, Kd.R_step h1 hm, Kd.R_step h2 hm⟩
theorem TB.below {w w1 : World} {base : Nat} {ok : Nat → Prop} {g : Nat} {kd : Int} {sl : List S76} {fr : List Int} (h : TB w base ok g kd sl fr) (hb : Below w.heap.size w w1) : TB w1 base ok g kd sl fr := h.step (fun k _ hk => hb.block k hk)
theorem TB.other {w w1 : World} {base : Nat} {ok ok' : Nat → Prop} {g : Nat} {kd : Int} {sl : List S76} {fr : List Int} (h : TB w base ok g kd sl fr) (hf : Fr base ok' w w1) (hd : ∀ k, ok k → ¬ ok' k) : TB w1 base ok g kd sl fr := h.step (fun k ho hk => hf.k k hk (hd k ho))
theorem TB.mono {w : World} {base : Nat} {ok ok' : Nat → Prop} {g : Nat} {kd : Int} {sl : List S76} {fr : List Int} (h : TB w base ok g kd sl fr) (ho : ∀ k, k < w.heap.size → ok k → ok' k) : TB w base ok' g kd sl fr := by
  have hl := h.lt
  obtain ⟨h0, vs, vf, hg, h1, h2⟩ := h
  exact ⟨⟨ho g hl h0.1, h0.2⟩, vs, vf, hg, Kd.R_mono (Kd.R_bound h1) (fun k hk => ho k hk.2.2.1 hk.1), Kd.R_mono (Kd.R_bound h2) (fun k hk => ho k hk.2.2.1 hk.1)⟩
theorem blk3_0 {w : World} {g : Nat} {x y z : Value} {t : Nat} (h : w.heap[g]? = some (.cells #[x, y, z] t (0, 0))) : w.cell? ⟨g, 0, none⟩ = some x := by simp [World.cell?, h]
theorem blk3_1 {w : World} {g : Nat} {x y z : Value} {t : Nat} (h : w.heap[g]? = some (.cells #[x, y, z] t (0, 0))) : w.cell? ⟨g, 1, none⟩ = some y := by simp [World.cell?, h]
theorem blk3_2 {w : World} {g : Nat} {x y z : Value} {t : Nat} (h : w.heap[g]? = some (.cells #[x, y, z] t (0, 0))) : w.cell? ⟨g, 2, none⟩ = some z := by simp [World.cell?, h]
/-- Slot i is the handle's. -/
structure LiveAt (kd : Int) (sl : List S76) (h : Int) (i : Nat) : Prop where
  lo : 4611686018427387904 ≤ h
  at_ : h % 4294967296 = i
  lt : i < sl.length
  used : (sl.getD i z76).f1 = true
  kind : h / 4611686018427387904 = kd
  gen : h / 4294967296 % 1073741824 = (sl.getD i z76).f2
theorem k76_at {w : World} {base : Nat} {ok : Nat → Prop} {vs : Value} {sl : List S76} (h : k76.R 76 w base ok vs sl) {i : Nat} (hi : i < sl.length) :
    ∃ sb c, vs = .slice (some ⟨sb, 0, none⟩) sl.length c ∧ base ≤ sb ∧ ok sb ∧ (∃ cells, w.heap[sb]? = some (.cells cells 76 (0, 0))) ∧ w.cell? ⟨sb, i * 3, none⟩ = some (.int .i64 (sl.getD i z76).f0) ∧ w.cell? ⟨sb, i * 3 + 1, none⟩ = some (.bool (sl.getD i z76).f1) ∧ w.cell? ⟨sb, i * 3 + 2, none⟩ = some (.int .i64 (sl.getD i z76).f2) ∧ (∀ j, w.frozen? ⟨sb, i * 3 + j, none⟩ = false) := by
  obtain ⟨sb, c, rfl, hb, hlt, hcells⟩ := Kd.R_form h (by omega)
  obtain ⟨cs, hcl, hM, hcc, hfr⟩ := Kd.R_elem h z76 (i : Int) (by omega) (by omega)
  have hMM : (i : Int).toNat * k76.sz = i * 3 := by rw [Int.toNat_natCast]; rfl
  rw [hMM] at hcc hfr
  have hcs := k76_openM hM
  rw [Int.toNat_natCast] at hcs
  subst hcs
  exact ⟨sb, c, rfl, hb, h.1 sb (by simp [Value.ownBlock]), hcells, hcc 0 _ rfl, hcc 1 _ rfl, hcc 2 _ rfl, hfr⟩
theorem neq_yes {a b c d : Int} (h : ¬ (a = c ∧ b = d)) (w : World) : (binOp .neq 99 (.agg #[.int .i64 a, .int .i64 b]) (.agg #[.int .i64 c, .int .i64 d])).run Try.prog w = .ok (.bool true) w := by
  go_simp
  intro h1 h2
  exact h ⟨h1, h2⟩
theorem neq_no (a b : Int) (w : World) : (binOp .neq 99 (.agg #[.int .i64 a, .int .i64 b]) (.agg #[.int .i64 a, .int .i64 b])).run Try.prog w = .ok (.bool false) w := by
  go_simp
/-! ### live -/
set_option maxHeartbeats 2000000 in
theorem live_some {w : World} {base : Nat} {ok : Nat → Prop} {g : Nat} {kd : Int} {sl : List S76} {fr : List Int} (h : TB w base ok g kd sl fr) (hd : Int) (hu : hd < 18446744073709551616) {i : Nat} (hl : LiveAt kd sl hd i) {sb c : Nat} {vf : Value} (hb : w.heap[g]? = some (.cells #[.int .i64 kd, .slice (some ⟨sb, 0, none⟩) sl.length c, vf] 74 (0, 0))) (c1 : w.cell? ⟨sb, i * 3 + 1, none⟩ = some (.bool true)) (c2 : w.cell? ⟨sb, i * 3 + 2, none⟩ = some (.int .i64 (sl.getD i z76).f2)) :
    Calls Try.prog 36 #[.pointer (some ⟨g, 0, none⟩), .int .u64 hd] w fun e w' => e = .returned (.pointer (some ⟨sb, i * 3, none⟩)) ∧ Below w.heap.size w w' := by
  obtain ⟨hlo, hat, hlt, hus, hki, hge⟩ := hl
  have hlen : sl.length ≤ 9223372036854775807 := by
    obtain ⟨_, vs, _, hb2, hR, _⟩ := h
    have := (Kd.R_reads hR).choose_spec.choose_spec.2.2.2.1
    exact this
  have g0 := blk3_0 hb
  have g1 := blk3_1 hb
  obtain ⟨gn, hgn⟩ : ∃ gn, gn = (sl.getD i z76).f2 := ⟨_, rfl⟩
  rw [← hgn] at c2 hge
  have HLO := Aside0.mk hlo
  have HAT := Aside0.mk hat
  have HKI := Aside0.mk hki
  have HGE := Aside0.mk hge
  have hin1 : 0 ≤ (i : Int) ∧ (i : Int) < (sl.length : Int) := by omega
  have hin2 : (i : Int) < (sl.length : Int) := by omega
  have hnm := neq_no kd gn
  clear h hb hus hgn hlo hat hki hge
  go_enter Try.func36, Try.ntmps36
  go_wp2_with fail
  refine (unpack_yes hd w HLO.out hu).mono ?_
  rw [HAT.out, HKI.out, HGE.out]
  rintro e w1 ⟨rfl, hb1⟩
  have HB1 := Aside0.mk hb1
  replace g0 := pw_cell_below hb1 g0
  replace g1 := pw_cell_below hb1 g1
  replace c1 := pw_cell_below hb1 c1
  replace c2 := pw_cell_below hb1 c2
  clear hb1
  go_wp2
  go_quiet (fail)
  go_wp2
  go_ret
  exact ⟨rfl, pw_below_drewN HB1.out _⟩
end Go.Proofs.Ytgcbfbdhibbpdaa.Tb
