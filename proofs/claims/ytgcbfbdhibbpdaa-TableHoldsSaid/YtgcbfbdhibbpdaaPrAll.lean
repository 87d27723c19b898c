/- A table of numbers, its block and its rows; which slot a handle tells (the methods live, Get), walked by hand. -/
import Derived.Test.YtgcbfbdhibbpdaaMTab
import Derived.Test.YtgcbfbdhibbpdaaMUnpack
import Derived.Test.YtgcbfbdhibbpdaaHPlain
import Derived.Test.YtgcbfbdhibbpdaaSk
import Derived.Test.YtgcbfbdhibbpdaaMFrame
set_option linter.unusedVariables false
set_option linter.unusedSimpArgs false
namespace Go.Proofs.Ytgcbfbdhibbpdaa.Tb.Pr
open Go.RowKit Go.Proofs.YtgcbfbdhibbpdaaW.PrintWords Go.Proofs.YtgcbfbdhibbpdaaW.PrintLast Go.Proofs.YtgcbfbdhibbpdaaW.PrintMore
attribute [local go_sem] max2_int min2_int
/-! ### a slot of two strings -/
structure S95 where
  f0 : ByteArray × ByteArray
  f1 : Bool
  f2 : Int
def z95 : S95 := ⟨((⟨#[]⟩ : ByteArray), (⟨#[]⟩ : ByteArray)), false, (0 : Int)⟩
def k95 : Kd S95 := Kd.iso (Kd.pair Kd.string (Kd.pair Kd.string (Kd.pair Kd.bool (Kd.int .i64)))) (fun x : S95 => (x.f0.1, x.f0.2, x.f1, x.f2))
theorem k95_openM {w : World} {base : Nat} {ok : Nat → Prop} {x : S95} {cs : List Value} (h : k95.M w base ok x cs) : cs = [.string x.f0.1, .string x.f0.2, .bool x.f1, .int .i64 x.f2] := by
  obtain ⟨_, _, rfl, rfl, ⟨_, _, rfl, rfl, ⟨_, _, rfl, rfl, rfl⟩⟩⟩ := h
  exact rfl
theorem k95_mkM (w : World) (base : Nat) (ok : Nat → Prop) (x : S95) : k95.M w base ok x [.string x.f0.1, .string x.f0.2, .bool x.f1, .int .i64 x.f2] := ⟨[.string x.f0.1], [.string x.f0.2, .bool x.f1, .int .i64 x.f2], rfl, rfl, ⟨[.string x.f0.2], [.bool x.f1, .int .i64 x.f2], rfl, rfl, ⟨[.bool x.f1], [.int .i64 x.f2], rfl, rfl, rfl⟩⟩⟩
/-! ### a table -/
def TB (w : World) (base : Nat) (ok : Nat → Prop) (g : Nat) (kd : Int) (sl : List S95) (fr : List Int) : Prop :=
  (ok g ∧ base ≤ g) ∧ ∃ vs vf, w.heap[g]? = some (.cells #[.int .i64 kd, vs, vf] 93 (0, 0)) ∧ k95.R 95 w base ok vs sl ∧ (Kd.int .i64).R 3 w base ok vf fr
theorem TB.lt {w : World} {base : Nat} {ok : Nat → Prop} {g : Nat} {kd : Int} {sl : List S95} {fr : List Int} (h : TB w base ok g kd sl fr) : g < w.heap.size := by
  obtain ⟨_, _, _, h, _⟩ := h
  exact (Array.getElem?_eq_some_iff.1 h).1
theorem TB.step {w w1 : World} {base : Nat} {ok : Nat → Prop} {g : Nat} {kd : Int} {sl : List S95} {fr : List Int} (h : TB w base ok g kd sl fr) (hm : ∀ k, ok k → k < w.heap.size → w1.heap[k]? = w.heap[k]?) : TB w1 base ok g kd sl fr := by
  have hl := h.lt
  obtain ⟨h0, vs, vf, hg, h1, h2⟩ := h
  exact ⟨h0, vs, vf, (hm g h0.1 hl).trans hg, Kd.R_step h1 hm, Kd.R_step h2 hm⟩
theorem TB.below {w w1 : World} {base : Nat} {ok : Nat → Prop} {g : Nat} {kd : Int} {sl : List S95} {fr : List Int} (h : TB w base ok g kd sl fr) (hb : Below w.heap.size w w1) : TB w1 base ok g kd sl fr := h.step (fun k _ hk => hb.block k hk)
theorem TB.other {w w1 : World} {base : Nat} {ok ok' : Nat → Prop} {g : Nat} {kd : Int} {sl : List S95} {fr : List Int} (h : TB w base ok g kd sl fr) (hf : Fr base ok' w w1) (hd : ∀ k, ok k → ¬ ok' k) : TB w1 base ok g kd sl fr := h.step (fun k ho hk => hf.k k hk (hd k ho))
theorem TB.mono {w : World} {base : Nat} {ok ok' : Nat → Prop} {g : Nat} {kd : Int} {sl : List S95} {fr : List Int} (h : TB w base ok g kd sl fr) (ho : ∀ k, k < w.heap.size → ok k → ok' k) : TB w base ok' g kd sl fr := by
  have hl := h.lt
  obtain ⟨h0, vs, vf, hg, h1, h2⟩ := h
  exact ⟨⟨ho g hl h0.1, h0.2⟩, vs, vf, hg, Kd.R_mono (Kd.R_bound h1) (fun k hk => ho k hk.2.2.1 hk.1), Kd.R_mono (Kd.R_bound h2) (fun k hk => ho k hk.2.2.1 hk.1)⟩
theorem blk3_0 {w : World} {g : Nat} {x y z : Value} {t : Nat} (h : w.heap[g]? = some (.cells #[x, y, z] t (0, 0))) : w.cell? ⟨g, 0, none⟩ = some x := by simp [World.cell?, h]
theorem blk3_1 {w : World} {g : Nat} {x y z : Value} {t : Nat} (h : w.heap[g]? = some (.cells #[x, y, z] t (0, 0))) : w.cell? ⟨g, 1, none⟩ = some y := by simp [World.cell?, h]
theorem blk3_2 {w : World} {g : Nat} {x y z : Value} {t : Nat} (h : w.heap[g]? = some (.cells #[x, y, z] t (0, 0))) : w.cell? ⟨g, 2, none⟩ = some z := by simp [World.cell?, h]
/-- Slot i is the handle's. -/
structure LiveAt (kd : Int) (sl : List S95) (h : Int) (i : Nat) : Prop where
  lo : 4611686018427387904 ≤ h
  at_ : h % 4294967296 = i
  lt : i < sl.length
  used : (sl.getD i z95).f1 = true
  kind : h / 4611686018427387904 = kd
  gen : h / 4294967296 % 1073741824 = (sl.getD i z95).f2
theorem k95_at {w : World} {base : Nat} {ok : Nat → Prop} {vs : Value} {sl : List S95} (h : k95.R 95 w base ok vs sl) {i : Nat} (hi : i < sl.length) :
    ∃ sb c, vs = .slice (some ⟨sb, 0, none⟩) sl.length c ∧ base ≤ sb ∧ ok sb ∧ (∃ cells, w.heap[sb]? = some (.cells cells 95 (0, 0))) ∧ (w.cell? ⟨sb, i * 4, none⟩ = some (.string (sl.getD i z95).f0.1) ∧ w.cell? ⟨sb, i * 4 + 1, none⟩ = some (.string (sl.getD i z95).f0.2)) ∧ w.cell? ⟨sb, i * 4 + 2, none⟩ = some (.bool (sl.getD i z95).f1) ∧ w.cell? ⟨sb, i * 4 + 3, none⟩ = some (.int .i64 (sl.getD i z95).f2) ∧ (∀ j, w.frozen? ⟨sb, i * 4 + j, none⟩ = false) := by
  obtain ⟨sb, c, rfl, hb, hlt, hcells⟩ := Kd.R_form h (by omega)
  obtain ⟨cs, hcl, hM, hcc, hfr⟩ := Kd.R_elem h z95 (i : Int) (by omega) (by omega)
  have hMM : (i : Int).toNat * k95.sz = i * 4 := by rw [Int.toNat_natCast]; rfl
  rw [hMM] at hcc hfr
  have hcs := k95_openM hM
  rw [Int.toNat_natCast] at hcs
  subst hcs
  exact ⟨sb, c, rfl, hb, h.1 sb (by simp [Value.ownBlock]), hcells, ⟨hcc 0 _ rfl, hcc 1 _ rfl⟩, hcc 2 _ rfl, hcc 3 _ rfl, hfr⟩
theorem neq_yes {a b c d : Int} (h : ¬ (a = c ∧ b = d)) (w : World) : (binOp .neq 99 (.agg #[.int .i64 a, .int .i64 b]) (.agg #[.int .i64 c, .int .i64 d])).run Try.prog w = .ok (.bool true) w := by
  go_simp
  intro h1 h2
  exact h ⟨h1, h2⟩
theorem neq_no (a b : Int) (w : World) : (binOp .neq 99 (.agg #[.int .i64 a, .int .i64 b]) (.agg #[.int .i64 a, .int .i64 b])).run Try.prog w = .ok (.bool false) w := by
  go_simp
/-! ### live -/
set_option maxHeartbeats 2000000 in
theorem live_some {w : World} {base : Nat} {ok : Nat → Prop} {g : Nat} {kd : Int} {sl : List S95} {fr : List Int} (h : TB w base ok g kd sl fr) (hd : Int) (hu : hd < 18446744073709551616) {i : Nat} (hl : LiveAt kd sl hd i) {sb c : Nat} {vf : Value} (hb : w.heap[g]? = some (.cells #[.int .i64 kd, .slice (some ⟨sb, 0, none⟩) sl.length c, vf] 93 (0, 0))) (c1 : w.cell? ⟨sb, i * 4 + 2, none⟩ = some (.bool true)) (c2 : w.cell? ⟨sb, i * 4 + 3, none⟩ = some (.int .i64 (sl.getD i z95).f2)) :
    Calls Try.prog 46 #[.pointer (some ⟨g, 0, none⟩), .int .u64 hd] w fun e w' => e = .returned (.pointer (some ⟨sb, i * 4, none⟩)) ∧ Below w.heap.size w w' := by
  obtain ⟨hlo, hat, hlt, hus, hki, hge⟩ := hl
  have hlen : sl.length ≤ 9223372036854775807 := by
    obtain ⟨_, vs, _, hb2, hR, _⟩ := h
    have := (Kd.R_reads hR).choose_spec.choose_spec.2.2.2.1
    exact this
  have g0 := blk3_0 hb
  have g1 := blk3_1 hb
  obtain ⟨gn, hgn⟩ : ∃ gn, gn = (sl.getD i z95).f2 := ⟨_, rfl⟩
  rw [← hgn] at c2 hge
  have HLO := Aside0.mk hlo
  have HAT := Aside0.mk hat
  have HKI := Aside0.mk hki
  have HGE := Aside0.mk hge
  have hin1 : 0 ≤ (i : Int) ∧ (i : Int) < (sl.length : Int) := by omega
  have hin2 : (i : Int) < (sl.length : Int) := by omega
  have hnm := neq_no kd gn
  clear h hb hus hgn hlo hat hki hge
  go_enter Try.func46, Try.ntmps46
  go_wp2_with fail
  refine (unpack_yes hd w HLO.out hu).mono ?_
  rw [HAT.out, HKI.out, HGE.out]
  rintro e w1 ⟨rfl, hb1⟩
  have HB1 := Aside0.mk hb1
  replace g0 := pw_cell_below hb1 g0
  replace g1 := pw_cell_below hb1 g1
  replace c1 := pw_cell_below hb1 c1
  replace c2 := pw_cell_below hb1 c2
  clear hb1
  go_wp2
  go_quiet (fail)
  go_wp2
  go_ret
  exact ⟨rfl, pw_below_drewN HB1.out _⟩
end Go.Proofs.Ytgcbfbdhibbpdaa.Tb.Pr

set_option linter.unusedVariables false
set_option linter.unusedSimpArgs false
namespace Go.Proofs.Ytgcbfbdhibbpdaa.Tb.Pr
open Go.RowKit Go.Proofs.YtgcbfbdhibbpdaaW.PrintWords Go.Proofs.YtgcbfbdhibbpdaaW.PrintLast Go.Proofs.YtgcbfbdhibbpdaaW.PrintMore
attribute [local go_sem] max2_int min2_int
theorem info95 : (Try.prog.info? 95).map (fun i => (i.zero, i.size, i.bytes)) = some (some (.agg #[(.string ⟨#[]⟩), (.string ⟨#[]⟩), (.bool false), (.int .i64 0)]), 4, 48) := by kernel_rfl
theorem info3 : (Try.prog.info? 3).map (fun i => (i.zero, i.size, i.bytes)) = some (some (.int .i64 0), 1, 8) := by kernel_rfl
/-! ### New, Len -/
set_option maxHeartbeats 1000000 in
theorem new_calls (kd : Int) (w : World) (base : Nat) (ok : Nat → Prop) (hbase : base ≤ w.heap.size) (hfresh : ∀ k, w.heap.size ≤ k → ok k) :
    Calls Try.prog 30 #[.int .i64 kd] w fun e w' => e = .returned (.pointer (some ⟨w.heap.size, 0, none⟩)) ∧ TB w' base ok w.heap.size kd [] [] ∧ Fr base ok w w' := by
  go_enter Try.func30, Try.ntmps30
  go_wp2_with fail
  go_ret
  refine ⟨rfl, ⟨⟨hfresh _ (Nat.le_refl _), hbase⟩, .slice none 0 0, .slice none 0 0, by unfold World.alloc; exact Array.getElem?_push_size, Kd.R_nil _ _ _ _ _, Kd.R_nil _ _ _ _ _⟩, Fr.of_below ((Below.refl _ _).alloc (Nat.le_refl _) _) hbase⟩
/-! ### handle -/
set_option maxHeartbeats 2000000 in
theorem handle_calls {w : World} {base : Nat} {ok : Nat → Prop} {g : Nat} {kd : Int} {sl : List S95} {fr : List Int} (h : TB w base ok g kd sl fr) {i : Nat} (hi : i < sl.length) (hk : -9223372036854775808 ≤ kd ∧ kd ≤ 9223372036854775807) (hg : -9223372036854775808 ≤ (sl.getD i z95).f2 ∧ (sl.getD i z95).f2 ≤ 9223372036854775807) :
    Calls Try.prog 45 #[.pointer (some ⟨g, 0, none⟩), .int .i64 i] w fun e w' => e = .returned (.int .u64 (pk kd i (sl.getD i z95).f2)) ∧ ∃ n, w' = w.drewN n := by
  obtain ⟨_, vs, vf, hb, hR, hF⟩ := h
  have h1 : sl.length ≤ 9223372036854775807 := (Kd.R_reads hR).choose_spec.choose_spec.2.2.2.1
  obtain ⟨sb, c, rfl, hbb, ho, hc, e0, e1, e2, hf⟩ := k95_at hR hi
  have g0 := blk3_0 hb
  have g1 := blk3_1 hb
  have hin1 : 0 ≤ (i : Int) ∧ (i : Int) < (sl.length : Int) := by omega
  have hin2 : (i : Int) < (sl.length : Int) := by omega
  have hpk := pack_is kd i (sl.getD i z95).f2 hk (by omega) hg
  obtain ⟨gn, hgn⟩ : ∃ gn, gn = (sl.getD i z95).f2 := ⟨_, rfl⟩
  rw [← hgn] at e2 hpk ⊢
  clear hb hR hF e0 e1 hf hc hgn hg hk
  go_enter Try.func45, Try.ntmps45
  go_wp2_with fail
  go_quiet ((go_at_call 20; exact Calls.quiet_of ((handle_Pack.calls _ _ _ _ _ hpk).mono (fun e w' h => ⟨h.1, h.2.out⟩))))
  go_wp2
  go_ret
  exact ⟨rfl, _, rfl⟩
end Go.Proofs.Ytgcbfbdhibbpdaa.Tb.Pr
/- A table's block and rows: one row anew, a slot written. -/
set_option linter.unusedVariables false
set_option linter.unusedSimpArgs false
namespace Go.Proofs.Ytgcbfbdhibbpdaa.Tb.Pr
open Go.RowKit Go.Proofs.YtgcbfbdhibbpdaaW.PrintWords Go.Proofs.YtgcbfbdhibbpdaaW.PrintLast Go.Proofs.YtgcbfbdhibbpdaaW.PrintMore
attribute [local go_sem] max2_int min2_int
theorem set3_2 {w : World} {g : Nat} {x y z u : Value} {t : TypeId} (h : w.heap[g]? = some (.cells #[x, y, z] t (0, 0))) : (w.setCell ⟨g, 2, none⟩ u).heap[g]? = some (.cells #[x, y, u] t (0, 0)) := by
  have hlt := lt_of_block h
  have h' : w.heap[g] = .cells #[x, y, z] t (0, 0) := by simpa [Array.getElem?_eq_getElem hlt] using h
  show (w.heap.modify g _)[g]? = _
  rw [Array.getElem?_eq_getElem (by simpa using hlt), Array.getElem_modify_self, h']
  rfl
theorem set3_1 {w : World} {g : Nat} {x y z u : Value} {t : TypeId} (h : w.heap[g]? = some (.cells #[x, y, z] t (0, 0))) : (w.setCell ⟨g, 1, none⟩ u).heap[g]? = some (.cells #[x, u, z] t (0, 0)) := by
  have hlt := lt_of_block h
  have h' : w.heap[g] = .cells #[x, y, z] t (0, 0) := by simpa [Array.getElem?_eq_getElem hlt] using h
  show (w.heap.modify g _)[g]? = _
  rw [Array.getElem?_eq_getElem (by simpa using hlt), Array.getElem_modify_self, h']
  rfl
/-- The row of slots stays while the row of free ones is written (its own block is of another type). -/
theorem slots_apart {w w1 : World} {base : Nat} {ok ok2 : Nat → Prop} {vs vf : Value} {sl : List S95} {fr : List Int} (hR : k95.R 95 w base ok vs sl) (hF : (Kd.int .i64).R 3 w base ok2 vf fr) (hg : w.grownBy w1 vf.ownBlock) : k95.R 95 w1 base ok vs sl := by
  cases hv : vf.ownBlock with
  | none => exact Kd.R_step hR (fun k _ hk => hg.block k hk (by rw [hv]; simp))
  | some b =>
    obtain ⟨cells, hc⟩ := own_typed (Kd.R_own hF).choose_spec b hv
    refine Kd.R_mono (Kd.R_step (Kd.R_types hR hc (by decide)) (fun k hk2 hk => hg.block k hk (by rw [hv]; intro e; injection e with e; exact hk2.2 e))) (fun k hk => hk.1)
theorem free_apart {w w1 : World} {base : Nat} {ok ok2 : Nat → Prop} {vs vf : Value} {sl : List S95} {fr : List Int} (hR : k95.R 95 w base ok2 vs sl) (hF : (Kd.int .i64).R 3 w base ok vf fr) (hg : w.grownBy w1 vs.ownBlock) : (Kd.int .i64).R 3 w1 base ok vf fr := by
  cases hv : vs.ownBlock with
  | none => exact Kd.R_step hF (fun k _ hk => hg.block k hk (by rw [hv]; simp))
  | some b =>
    obtain ⟨cells, hc⟩ := own_typed (Kd.R_own hR).choose_spec b hv
    refine Kd.R_mono (Kd.R_step (Kd.R_types hF hc (by decide)) (fun k hk2 hk => hg.block k hk (by rw [hv]; intro e; injection e with e; exact hk2.2 e))) (fun k hk => hk.1)
/-- The table's own block is no row's. -/
theorem block_apart {w w1 : World} {base : Nat} {ok2 : Nat → Prop} {α : Type} {d : Kd α} {e : Nat} {g : Nat} {cs : Array Value} {vf : Value} {fr : List α} (hb : w.heap[g]? = some (.cells cs 93 (0, 0))) (hF : d.R e w base ok2 vf fr) (he : e ≠ 93) (hg : w.grownBy w1 vf.ownBlock) : w1.heap[g]? = some (.cells cs 93 (0, 0)) := by
  refine (hg.block g (lt_of_block hb) ?_).trans hb
  intro hv
  obtain ⟨cells, hc⟩ := own_typed (Kd.R_own hF).choose_spec g hv.symm
  rw [hb] at hc
  injection hc with hc; injection hc with _ h2 _
  exact he h2.symm
/-- A row stays while the table's own block is written. -/
theorem row_set {w : World} {base : Nat} {ok : Nat → Prop} {α : Type} {d : Kd α} {e : Nat} {g : Nat} {cs : Array Value} {vf : Value} {fr : List α} (hb : w.heap[g]? = some (.cells cs 93 (0, 0))) (hF : d.R e w base ok vf fr) (he : ∀ q, q ∈ e :: d.E → q ≠ 93) (j : Nat) (u : Value) : d.R e (w.setCell ⟨g, j, none⟩ u) base ok vf fr :=
  Kd.R_mono (Kd.R_step (Kd.R_types hF hb he) (fun k hk2 _ => Below.heap_setCell _ _ _ _ hk2.2)) (fun k hk => hk.1)
/-- The row of free ones is another one. -/
theorem TB.free_new {w w1 : World} {base : Nat} {ok : Nat → Prop} {g : Nat} {kd : Int} {sl : List S95} {fr fr' : List Int} {vs vf v1 : Value} (h0 : ok g ∧ base ≤ g) (hb : w.heap[g]? = some (.cells #[.int .i64 kd, vs, vf] 93 (0, 0))) (hR : k95.R 95 w base ok vs sl) (hF : (Kd.int .i64).R 3 w base ok vf fr) (hg : w.grownBy w1 vf.ownBlock) (hF1 : (Kd.int .i64).R 3 w1 base ok v1 fr') :
    TB (w1.setCell ⟨g, 2, none⟩ v1) base ok g kd sl fr' ∧ Fr base ok w (w1.setCell ⟨g, 2, none⟩ v1) := by
  have hb1 := block_apart hb hF (by decide) hg
  refine ⟨⟨h0, vs, v1, set3_2 hb1, row_set hb1 (slots_apart hR hF hg) (by decide) _ _, row_set hb1 hF1 (by decide) _ _⟩, ?_⟩
  have hown : ∀ k, vf.ownBlock = some k → ok k ∧ base ≤ k := fun k hk => ⟨hF.1 k hk, by
    rcases Kd.R_base2 hF with h | ⟨j, hj, hbj⟩
    · rw [h] at hk; exact absurd hk (by simp)
    · rw [hj] at hk; injection hk with hk; omega⟩
  have hF0 : Fr base ok w w1 := ⟨⟨hg.os, hg.tape, hg.output, hg.size, fun k hk => by
      by_cases c : k < w.heap.size
      · exact hg.block k c (fun e => by have := (hown k e.symm).2; omega)
      · have := lt_of_block hb; omega⟩, fun i hi hn => hg.block i hi (fun e => hn (hown i e.symm).1)⟩
  exact hF0.set h0.2 h0.1 _ _
theorem TB.slots_new {w w1 : World} {base : Nat} {ok : Nat → Prop} {g : Nat} {kd : Int} {sl sl' : List S95} {fr : List Int} {vs vf v1 : Value} (h0 : ok g ∧ base ≤ g) (hb : w.heap[g]? = some (.cells #[.int .i64 kd, vs, vf] 93 (0, 0))) (hR : k95.R 95 w base ok vs sl) (hF : (Kd.int .i64).R 3 w base ok vf fr) (hg : w.grownBy w1 vs.ownBlock) (hR1 : k95.R 95 w1 base ok v1 sl') :
    TB (w1.setCell ⟨g, 1, none⟩ v1) base ok g kd sl' fr ∧ Fr base ok w (w1.setCell ⟨g, 1, none⟩ v1) := by
  have hb1 := block_apart hb hR (by decide) hg
  refine ⟨⟨h0, v1, vf, set3_1 hb1, row_set hb1 hR1 (by decide) _ _, row_set hb1 (free_apart hR hF hg) (by decide) _ _⟩, ?_⟩
  have hown : ∀ k, vs.ownBlock = some k → ok k ∧ base ≤ k := fun k hk => ⟨hR.1 k hk, by
    rcases Kd.R_base2 hR with h | ⟨j, hj, hbj⟩
    · rw [h] at hk; exact absurd hk (by simp)
    · rw [hj] at hk; injection hk with hk; omega⟩
  have hF0 : Fr base ok w w1 := ⟨⟨hg.os, hg.tape, hg.output, hg.size, fun k hk => by
      by_cases c : k < w.heap.size
      · exact hg.block k c (fun e => by have := (hown k e.symm).2; omega)
      · have := lt_of_block hb; omega⟩, fun i hi hn => hg.block i hi (fun e => hn (hown i e.symm).1)⟩
  exact hF0.set h0.2 h0.1 _ _
/-! ### Drop -/
theorem slot_drop {w : World} {base : Nat} {ok : Nat → Prop} {g : Nat} {kd : Int} {sl : List S95} {fr : List Int} {sb c : Nat} {vf : Value} (h : TB w base ok g kd sl fr) (hb : w.heap[g]? = some (.cells #[.int .i64 kd, .slice (some ⟨sb, 0, none⟩) sl.length c, vf] 93 (0, 0))) {i : Nat} (hi : i < sl.length) (x : S95) :
    TB ((((w.setCell ⟨sb, i * 4, none⟩ (.string x.f0.1)).setCell ⟨sb, i * 4 + 1, none⟩ (.string x.f0.2)).setCell ⟨sb, i * 4 + 2, none⟩ (.bool x.f1)).setCell ⟨sb, i * 4 + 3, none⟩ (.int .i64 x.f2)) base ok g kd (sl.set i x) fr ∧ Fr base ok w ((((w.setCell ⟨sb, i * 4, none⟩ (.string x.f0.1)).setCell ⟨sb, i * 4 + 1, none⟩ (.string x.f0.2)).setCell ⟨sb, i * 4 + 2, none⟩ (.bool x.f1)).setCell ⟨sb, i * 4 + 3, none⟩ (.int .i64 x.f2)) ∧ ((((w.setCell ⟨sb, i * 4, none⟩ (.string x.f0.1)).setCell ⟨sb, i * 4 + 1, none⟩ (.string x.f0.2)).setCell ⟨sb, i * 4 + 2, none⟩ (.bool x.f1)).setCell ⟨sb, i * 4 + 3, none⟩ (.int .i64 x.f2)).heap[g]? = some (.cells #[.int .i64 kd, .slice (some ⟨sb, 0, none⟩) sl.length c, vf] 93 (0, 0)) := by
  obtain ⟨h0, vs, vf2, hb2, hR, hF⟩ := h
  rw [hb] at hb2
  obtain ⟨rfl, e3'⟩ : vs = .slice (some ⟨sb, 0, none⟩) sl.length c ∧ vf = vf2 := by
    simp only [Option.some.injEq, Obj.cells.injEq] at hb2
    have := hb2.1
    simp only [Array.mk.injEq, List.cons.injEq] at this
    exact ⟨this.2.1.symm, this.2.2.1⟩
  subst e3'
  obtain ⟨sb', c', he, hbb, ho, hc, e0, e1, e2, hf⟩ := k95_at hR hi
  obtain ⟨e1', e2'⟩ : sb = sb' ∧ c = c' := by
    simp only [Value.slice.injEq, Option.some.injEq, Addr.mk.injEq] at he
    exact ⟨he.1.1, he.2.2⟩
  subst e1' e2'
  clear e0 e1 e2 hf
  obtain ⟨cs, hcl, hM, hcc, hfr⟩ := Kd.R_elem hR z95 (i : Int) (by omega) (by omega)
  have hMM : (i : Int).toNat * k95.sz = i * 4 := by rw [Int.toNat_natCast]; rfl
  have hcs := k95_openM hM
  rw [Int.toNat_natCast] at hcs
  subst hcs
  have hs := Kd.R_seg hR (i : Int) (by omega) (by omega) (seg := [.string x.f0.1, .string x.f0.2, .bool x.f1, .int .i64 x.f2]) (j := 0) (x' := x) (okp := fun _ => False) hcl hcc (show 0 + 4 ≤ 4 by decide) (k95_mkM w base _ x) (fun _ h => h.elim)
  rw [hMM, Int.toNat_natCast] at hs
  have hsw : w.setCells sb (i * 4 + 0) [.string x.f0.1, .string x.f0.2, .bool x.f1, .int .i64 x.f2] = ((((w.setCell ⟨sb, i * 4, none⟩ (.string x.f0.1)).setCell ⟨sb, i * 4 + 1, none⟩ (.string x.f0.2)).setCell ⟨sb, i * 4 + 2, none⟩ (.bool x.f1)).setCell ⟨sb, i * 4 + 3, none⟩ (.int .i64 x.f2)) := rfl
  rw [hsw] at hs
  have hgs : g ≠ sb := by
    intro e
    obtain ⟨cells, hc⟩ := hc
    rw [← e, hb] at hc
    simp at hc
  have hk : ∀ k, k ≠ sb → ((((w.setCell ⟨sb, i * 4, none⟩ (.string x.f0.1)).setCell ⟨sb, i * 4 + 1, none⟩ (.string x.f0.2)).setCell ⟨sb, i * 4 + 2, none⟩ (.bool x.f1)).setCell ⟨sb, i * 4 + 3, none⟩ (.int .i64 x.f2)).heap[k]? = w.heap[k]? := fun k hk => (Below.heap_setCell _ _ _ _ hk).trans ((Below.heap_setCell _ _ _ _ hk).trans ((Below.heap_setCell _ _ _ _ hk).trans (Below.heap_setCell _ _ _ _ hk)))
  have hlen : (sl.set i x).length = sl.length := by simp
  have hgb := (hk g hgs).trans hb
  refine ⟨⟨h0, .slice (some ⟨sb, 0, none⟩) sl.length c, vf, hgb, hs.1, ?_⟩, ((((Fr.refl base ok w).set hbb ho _ _).set hbb ho _ _).set hbb ho _ _).set hbb ho _ _, hgb⟩
  obtain ⟨cells, hc⟩ := hc
  exact Kd.R_mono (Kd.R_step (Kd.R_types hF hc (by decide)) (fun k hk2 _ => hk k hk2.2)) (fun k hk => hk.1)
end Go.Proofs.Ytgcbfbdhibbpdaa.Tb.Pr
/- A table's methods Drop, Get, Set where the handle is live. -/
set_option linter.unusedVariables false
set_option linter.unusedSimpArgs false
namespace Go.Proofs.Ytgcbfbdhibbpdaa.Tb.Pr
open Go.RowKit Go.Proofs.YtgcbfbdhibbpdaaW.PrintWords Go.Proofs.YtgcbfbdhibbpdaaW.PrintLast Go.Proofs.YtgcbfbdhibbpdaaW.PrintMore
attribute [local go_sem] max2_int min2_int
theorem TB.parts {w : World} {base : Nat} {ok : Nat → Prop} {g : Nat} {kd : Int} {sl : List S95} {fr : List Int} {vs vf : Value} (h : TB w base ok g kd sl fr) (hb : w.heap[g]? = some (.cells #[.int .i64 kd, vs, vf] 93 (0, 0))) : (ok g ∧ base ≤ g) ∧ k95.R 95 w base ok vs sl ∧ (Kd.int .i64).R 3 w base ok vf fr := by
  obtain ⟨h0, vs2, vf2, hb2, hR, hF⟩ := h
  rw [hb] at hb2
  obtain ⟨e1, e2⟩ : vs = vs2 ∧ vf = vf2 := by
    simp only [Option.some.injEq, Obj.cells.injEq] at hb2
    have := hb2.1
    simp only [Array.mk.injEq, List.cons.injEq] at this
    exact ⟨this.2.1, this.2.2.1⟩
  subst e1 e2
  exact ⟨h0, hR, hF⟩
theorem blk3_f {w : World} {g : Nat} {x y z : Value} {t : Nat} (h : w.heap[g]? = some (.cells #[x, y, z] t (0, 0))) (j : Nat) : w.frozen? ⟨g, j, none⟩ = false := by simp [World.frozen?, h]
set_option maxRecDepth 4000 in
set_option maxHeartbeats 2000000 in
theorem drop_yes {w : World} {base : Nat} {ok : Nat → Prop} {g : Nat} {kd : Int} {sl : List S95} {fr : List Int} (h : TB w base ok g kd sl fr) (hd : Int) (hu : hd < 18446744073709551616) {i : Nat} (hl : LiveAt kd sl hd i) (hbase : base ≤ w.heap.size) (hfresh : ∀ k, w.heap.size ≤ k → ok k) (hgn : 0 ≤ (sl.getD i z95).f2 ∧ (sl.getD i z95).f2 < 1073741824) (hfl : fr.length ≤ 1000) :
    Calls Try.prog 32 #[.pointer (some ⟨g, 0, none⟩), .int .u64 hd] w fun e w' => e = .returned (.bool true) ∧ TB w' base ok g kd (sl.set i ⟨(⟨#[]⟩, ⟨#[]⟩), false, nx (sl.getD i z95).f2⟩) (fr ++ [(i : Int)]) ∧ Fr base ok w w' := by
  have hT := h
  obtain ⟨_, vs, vf, hb, hR, hF⟩ := h
  obtain ⟨A2, c2, rfl⟩ := Kd.R_slice hF
  clear hF
  obtain ⟨sb, c, rfl, hbb, ho, hc, e0, e1, e2, hf⟩ := k95_at hR hl.lt
  rw [hl.used] at e1
  have HL := Aside0.mk (live_some hT hd hu hl hb e1 e2)
  have hnx := next_is (sl.getD i z95).f2 (by omega)
  have hlt := hl.lt
  have f0 := hf 0
  have f1 := hf 1
  have f2 := hf 2
  rw [Nat.add_zero] at f0
  have hat := Aside0.mk hl.at_
  have hlo := hl.lo
  obtain ⟨e0, eg⟩ := e0
  have f3 := hf 3
  obtain ⟨x, hx⟩ : ∃ x, x = (sl.getD i z95).f0.1 := ⟨_, rfl⟩
  obtain ⟨y, hy⟩ : ∃ y, y = (sl.getD i z95).f0.2 := ⟨_, rfl⟩
  obtain ⟨gn, hg⟩ : ∃ gn, gn = (sl.getD i z95).f2 := ⟨_, rfl⟩
  rw [← hx] at e0
  rw [← hy] at eg
  rw [← hg] at e2 hnx ⊢
  obtain ⟨n, hn⟩ : ∃ n, n = nx gn := ⟨_, rfl⟩
  rw [← hn] at hnx ⊢
  have HT := Aside0.mk hT
  have HB := Aside0.mk hb
  have HLT := Aside0.mk hlt
  have HLO := Aside0.mk hlo
  have HNX := Aside0.mk hnx
  have HFL := Aside0.mk hfl
  clear hT hb hR hc hf hl hg hx hy hn hlt hlo hgn hnx hfl
  obtain ⟨q, hq⟩ : ∃ q, q = hd / 4611686018427387904 := ⟨_, rfl⟩
  obtain ⟨r, hr⟩ : ∃ r, r = hd / 4294967296 % 1073741824 := ⟨_, rfl⟩
  have HQ := Aside0.mk hq
  have HR := Aside0.mk hr
  clear hq hr
  go_enter Try.func32, Try.ntmps32
  go_wp2_with fail
  refine HL.out.mono ?_
  rintro e w1 ⟨rfl, hb1⟩
  have HB1 := Aside0.mk hb1
  clear hb1
  go_wp2_with fail
  refine (unpack_yes hd w1 HLO.out hu).mono ?_
  rw [hat.out, ← HQ.out, ← HR.out]
  rintro e w2 ⟨rfl, hb2⟩
  have HB2 := Aside0.mk (HB1.out.trans (hb2.mono HB1.out.size))
  clear hb2
  have e2' := pw_cell_below HB2.out e2
  go_wp2_with fail
  refine (handle_Next.calls gn n w2 HNX.out).mono ?_
  rintro e w3 ⟨rfl, hd3⟩
  have hb3 := HB2.out.trans ((hd3.below).mono HB2.out.size)
  have HB3 := Aside0.mk hb3
  replace f0 : w3.frozen? ⟨sb, i * 4, none⟩ = false := (hb3.frozen (World.block_lt_of_cell? w _ e0)).trans f0
  replace f1 : w3.frozen? ⟨sb, i * 4 + 1, none⟩ = false := (hb3.frozen (World.block_lt_of_cell? w _ eg)).trans f1
  replace f2 : w3.frozen? ⟨sb, i * 4 + 2, none⟩ = false := (hb3.frozen (World.block_lt_of_cell? w _ e1)).trans f2
  replace f3 : w3.frozen? ⟨sb, i * 4 + 3, none⟩ = false := (hb3.frozen (World.block_lt_of_cell? w _ e2)).trans f3
  replace eg := pw_cell_below hb3 eg
  replace e0 := pw_cell_below hb3 e0
  replace e1 := pw_cell_below hb3 e1
  replace e2 := pw_cell_below hb3 e2
  have HP := Aside0.mk (slot_drop (HT.out.below hb3) (by rw [hb3.block _ HT.out.lt]; exact HB.out) HLT.out ⟨(⟨#[]⟩, ⟨#[]⟩), false, n⟩)
  have g2 := blk3_2 HP.out.2.2
  dsimp only at g2
  clear hb3 hd3 e2'
  have HBB := Aside0.mk ((HB3.out.mono hbase).trans HP.out.2.1.b)
  have HPP := Aside0.mk (HP.out.1.parts HP.out.2.2)
  go_wp2_with (at_builtin; refine Kd.R_append (Kd.int .i64) (w0 := w) base rfl _ _ 29 3 _ 8 rfl Try.underlying29 info3 rfl (show 0 < 1 by decide) (by decide) (.slice A2 fr.length c2) fr (i : Int) [.int .i64 i] ok (fun _ => False) rfl (by first | rfl | (go_simp; done) | (simp; done)) rfl (fun _ h => h.elim) (fun k hk => hfresh k (Nat.le_trans HBB.out.size hk)) HPP.out.2.2 HBB.out (Nat.le_trans hbase HBB.out.size) (by have := HFL.out; omega) ?_; intro v1 w5 hR5 hb5 hg5 hat5; obtain ⟨A3, c3, rfl⟩ := Kd.R_slice hR5; have hb6 := block_apart HP.out.2.2 HPP.out.2.2 (by decide) hg5; have g6 := blk3_2 hb6; have f6 := blk3_f hb6 2; have HE := Aside0.mk (TB.free_new HPP.out.1 HP.out.2.2 HPP.out.2.1 HPP.out.2.2 hg5 hR5); clear hb6 hg5 hR5 hb5 hat5)
  go_ret
  have hE := HE.out
  rw [show (fr ++ [(i : Int)]).length = fr.length + 1 from by simp] at hE
  exact ⟨rfl, hE.1, ((Fr.of_below HB3.out hbase).trans HP.out.2.1).trans hE.2⟩
/-! ### Get -/
set_option maxHeartbeats 1000000 in
theorem get_yes {w : World} {base : Nat} {ok : Nat → Prop} {g : Nat} {kd : Int} {sl : List S95} {fr : List Int} (h : TB w base ok g kd sl fr) (hd : Int) (hu : hd < 18446744073709551616) {i : Nat} (hl : LiveAt kd sl hd i) :
    Calls Try.prog 33 #[.pointer (some ⟨g, 0, none⟩), .int .u64 hd] w fun e w' => e = .returned (.tuple #[.agg #[.string (sl.getD i z95).f0.1, .string (sl.getD i z95).f0.2], .bool true]) ∧ Below w.heap.size w w' := by
  have hT := h
  obtain ⟨_, vs, vf, hb, hR, _⟩ := h
  obtain ⟨sb, c, rfl, hbb, ho, hc, e0, e1, e2, hf⟩ := k95_at hR hl.lt
  rw [hl.used] at e1
  obtain ⟨e0, eg⟩ := e0
  have hA := below_alloc (Below.refl w.heap.size w) (.cells #[.string ⟨#[]⟩, .string ⟨#[]⟩] 68)
  have HA := Aside0.mk hA
  have HN := Aside0.mk (heap_alloc_new w (.cells #[.string ⟨#[]⟩, .string ⟨#[]⟩] 68))
  have HSZ := Aside0.mk (show w.heap.size < (w.alloc (.cells #[.string ⟨#[]⟩, .string ⟨#[]⟩] 68)).heap.size by simp)
  have HL := Aside0.mk (live_some (hT.below hA) hd hu hl ((hA.block _ hT.lt).trans hb) (pw_cell_below hA e1) (pw_cell_below hA e2))
  obtain ⟨x, hx⟩ : ∃ x, x = (sl.getD i z95).f0.1 := ⟨_, rfl⟩
  obtain ⟨y, hy⟩ : ∃ y, y = (sl.getD i z95).f0.2 := ⟨_, rfl⟩
  rw [← hx] at e0 ⊢
  rw [← hy] at eg ⊢
  replace e0 := pw_cell_below hA e0
  replace eg := pw_cell_below hA eg
  clear hT hb hR hc e1 e2 hf hl hx hy hA
  go_enter Try.func33, Try.ntmps33
  go_wp2_with fail
  refine HL.out.mono ?_
  rintro e w1 ⟨rfl, hb1⟩
  have HB1 := Aside0.mk hb1
  replace e0 := pw_cell_below hb1 e0
  replace eg := pw_cell_below hb1 eg
  have hz := (hb1.block _ HSZ.out).trans HN.out
  have z0 : w1.cell? ⟨w.heap.size, 0, none⟩ = some (.string ⟨#[]⟩) := by simp [World.cell?, hz]
  have z1 : w1.cell? ⟨w.heap.size, 1, none⟩ = some (.string ⟨#[]⟩) := by simp [World.cell?, hz]
  have z2 : w1.frozen? ⟨w.heap.size, 0, none⟩ = false := by simp [World.frozen?, hz]
  have z3 : w1.frozen? ⟨w.heap.size, 1, none⟩ = false := by simp [World.frozen?, hz]
  have HZ := Aside0.mk hz
  clear hb1 hz
  go_wp2
  have hz2 := blk_set (blk_set HZ.out 0 (.string x)) 1 (.string y)
  have HB2 := Aside0.mk (show Below w.heap.size w ((w1.setCell ⟨w.heap.size, 0, none⟩ (.string x)).setCell ⟨w.heap.size, 1, none⟩ (.string y)) from below_set (below_set (HA.out.trans (HB1.out.mono HA.out.size)) (Nat.le_refl _)) (Nat.le_refl _))
  generalize (w1.setCell ⟨w.heap.size, 0, none⟩ (.string x)).setCell ⟨w.heap.size, 1, none⟩ (.string y) = W2 at hz2 HB2 ⊢
  have c0 : W2.cell? ⟨w.heap.size, 0, none⟩ = some (.string x) := by simp [World.cell?, hz2]
  have c1 : W2.cell? ⟨w.heap.size, 1, none⟩ = some (.string y) := by simp [World.cell?, hz2]
  exact bodyPost_ret (v := .tuple #[.agg #[.string x, .string y], .bool true]) (by simp [results, Try.results33, go_sem, c0, c1]) rfl ⟨rfl, HB2.out⟩
end Go.Proofs.Ytgcbfbdhibbpdaa.Tb.Pr
/- Which slot a handle tells: none. -/
set_option linter.unusedVariables false
set_option linter.unusedSimpArgs false
namespace Go.Proofs.Ytgcbfbdhibbpdaa.Tb.Pr
open Go.RowKit Go.Proofs.YtgcbfbdhibbpdaaW.PrintWords Go.Proofs.YtgcbfbdhibbpdaaW.PrintLast Go.Proofs.YtgcbfbdhibbpdaaW.PrintMore
attribute [local go_sem] max2_int min2_int
set_option maxHeartbeats 4000000 in
theorem live_none_a {w : World} {g : Nat} {kd : Int} {vs vf : Value} (hd : Int) (h0 : 0 ≤ hd) (hu : hd < 4611686018427387904) (hb : w.heap[g]? = some (.cells #[.int .i64 kd, vs, vf] 93 (0, 0))) :
    Calls Try.prog 46 #[.pointer (some ⟨g, 0, none⟩), .int .u64 hd] w fun e w' => e = .returned (.pointer none) ∧ Below w.heap.size w w' := by
  go_enter Try.func46, Try.ntmps46
  go_wp2_with fail
  refine (unpack_no hd w h0 hu).mono ?_
  rintro e w1 ⟨rfl, hb1⟩
  have HB1 := Aside0.mk hb1
  clear hb1
  go_wp2
  go_quiet (fail)
  go_wp2
  go_ret
  exact ⟨rfl, pw_below_drewN HB1.out _⟩
set_option maxHeartbeats 4000000 in
theorem live_none_nil (hd : Int) (h0 : 0 ≤ hd) (hu : hd < 18446744073709551616) (w : World) :
    Calls Try.prog 46 #[.pointer none, .int .u64 hd] w fun e w' => e = .returned (.pointer none) ∧ Below w.heap.size w w' := by
  obtain ⟨a, b, c, d, hc⟩ : ∃ a b c d, handle_Unpack.f hd = some (a, b, c, d) := by
    unfold handle_Unpack.f
    rw [if_pos h0]
    by_cases h1 : hd < 4611686018427387904
    · rw [if_pos h1]; exact ⟨_, _, _, _, rfl⟩
    · rw [if_neg h1, if_pos hu]; exact ⟨_, _, _, _, rfl⟩
  go_enter Try.func46, Try.ntmps46
  go_wp2_with fail
  refine (handle_Unpack.calls hd a b c d w hc).mono ?_
  rintro e w1 ⟨rfl, hb1⟩
  have HB1 := Aside0.mk hb1
  clear hb1
  go_wp2
  go_quiet (fail)
  go_wp2
  go_ret
  exact ⟨rfl, pw_below_drewN HB1.out _⟩
set_option maxHeartbeats 4000000 in
theorem live_none_b {w : World} {g : Nat} {kd : Int} {sp : Option Addr} {n c : Nat} {vf : Value} (hd : Int) (h0 : 4611686018427387904 ≤ hd) (hu : hd < 18446744073709551616) (hb : w.heap[g]? = some (.cells #[.int .i64 kd, .slice sp n c, vf] 93 (0, 0))) (hlen : n ≤ 9223372036854775807) (hge : (n : Int) ≤ hd % 4294967296) :
    Calls Try.prog 46 #[.pointer (some ⟨g, 0, none⟩), .int .u64 hd] w fun e w' => e = .returned (.pointer none) ∧ Below w.heap.size w w' := by
  have g1 := blk3_1 hb
  have hdec : decide (hd % 4294967296 < (n : Int)) = false := by simp; omega
  have hdec2 : decide ((n : Int) ≤ hd % 4294967296) = true := by simp; omega
  clear hb
  obtain ⟨i, hi⟩ : ∃ i, i = hd % 4294967296 := ⟨_, rfl⟩
  rw [← hi] at hge hdec hdec2
  have HI := Aside0.mk hi
  clear hi
  obtain ⟨q, hq⟩ : ∃ q, q = hd / 4611686018427387904 := ⟨_, rfl⟩
  obtain ⟨r, hr⟩ : ∃ r, r = hd / 4294967296 % 1073741824 := ⟨_, rfl⟩
  have HQ := Aside0.mk hq
  have HR := Aside0.mk hr
  clear hq hr
  go_enter Try.func46, Try.ntmps46
  go_wp2_with fail
  refine (unpack_yes hd w h0 hu).mono ?_
  rw [← HI.out, ← HQ.out, ← HR.out]
  rintro e w1 ⟨rfl, hb1⟩
  have HB1 := Aside0.mk hb1
  replace g1 := pw_cell_below hb1 g1
  clear hb1
  go_wp2
  go_quiet (fail)
  go_wp2
  go_ret
  exact ⟨rfl, pw_below_drewN HB1.out _⟩
set_option maxHeartbeats 4000000 in
theorem live_none_c {w : World} {g : Nat} {kd : Int} {sb n c : Nat} {vf : Value} (hd : Int) (h0 : 4611686018427387904 ≤ hd) (hu : hd < 18446744073709551616) (hb : w.heap[g]? = some (.cells #[.int .i64 kd, .slice (some ⟨sb, 0, none⟩) n c, vf] 93 (0, 0))) (hlen : n ≤ 9223372036854775807) (i : Nat) (hi : hd % 4294967296 = i) (hlt : i < n)
    (c1 : w.cell? ⟨sb, i * 4 + 2, none⟩ = some (.bool false)) :
    Calls Try.prog 46 #[.pointer (some ⟨g, 0, none⟩), .int .u64 hd] w fun e w' => e = .returned (.pointer none) ∧ Below w.heap.size w w' := by
  have g1 := blk3_1 hb
  have hnle : ¬ n ≤ i := by omega
  have hdnle : decide (n ≤ i) = false := by simp; omega
  have hin1 : 0 ≤ (i : Int) ∧ (i : Int) < (n : Int) := by omega
  have hin2 : (i : Int) < (n : Int) := by omega
  clear hb
  have HI := Aside0.mk hi
  clear hi
  obtain ⟨q, hq⟩ : ∃ q, q = hd / 4611686018427387904 := ⟨_, rfl⟩
  obtain ⟨r, hr⟩ : ∃ r, r = hd / 4294967296 % 1073741824 := ⟨_, rfl⟩
  have HQ := Aside0.mk hq
  have HR := Aside0.mk hr
  clear hq hr
  go_enter Try.func46, Try.ntmps46
  go_wp2_with fail
  refine (unpack_yes hd w h0 hu).mono ?_
  rw [HI.out, ← HQ.out, ← HR.out]
  rintro e w1 ⟨rfl, hb1⟩
  have HB1 := Aside0.mk hb1
  replace g1 := pw_cell_below hb1 g1
  replace c1 := pw_cell_below hb1 c1
  clear hb1
  go_wp2
  go_quiet (fail)
  go_wp2
  go_ret
  exact ⟨rfl, pw_below_drewN HB1.out _⟩
set_option maxHeartbeats 4000000 in
theorem live_none_d {w : World} {g : Nat} {kd : Int} {sb n c : Nat} {vf : Value} (hd : Int) (h0 : 4611686018427387904 ≤ hd) (hu : hd < 18446744073709551616) (hb : w.heap[g]? = some (.cells #[.int .i64 kd, .slice (some ⟨sb, 0, none⟩) n c, vf] 93 (0, 0))) (hlen : n ≤ 9223372036854775807) (i : Nat) (hi : hd % 4294967296 = i) (hlt : i < n) (gn : Int)
    (c1 : w.cell? ⟨sb, i * 4 + 2, none⟩ = some (.bool true)) (c2 : w.cell? ⟨sb, i * 4 + 3, none⟩ = some (.int .i64 gn)) (hne : ¬ (hd / 4611686018427387904 = kd ∧ hd / 4294967296 % 1073741824 = gn)) :
    Calls Try.prog 46 #[.pointer (some ⟨g, 0, none⟩), .int .u64 hd] w fun e w' => e = .returned (.pointer none) ∧ Below w.heap.size w w' := by
  have g0 := blk3_0 hb
  have g1 := blk3_1 hb
  have hnle : ¬ n ≤ i := by omega
  have hdnle : decide (n ≤ i) = false := by simp; omega
  have hin1 : 0 ≤ (i : Int) ∧ (i : Int) < (n : Int) := by omega
  have hin2 : (i : Int) < (n : Int) := by omega
  have hnm := neq_yes hne
  clear hb hne
  have HI := Aside0.mk hi
  clear hi
  obtain ⟨q, hq⟩ : ∃ q, q = hd / 4611686018427387904 := ⟨_, rfl⟩
  obtain ⟨r, hr⟩ : ∃ r, r = hd / 4294967296 % 1073741824 := ⟨_, rfl⟩
  rw [← hq, ← hr] at hnm
  have HQ := Aside0.mk hq
  have HR := Aside0.mk hr
  clear hq hr
  go_enter Try.func46, Try.ntmps46
  go_wp2_with fail
  refine (unpack_yes hd w h0 hu).mono ?_
  rw [HI.out, ← HQ.out, ← HR.out]
  rintro e w1 ⟨rfl, hb1⟩
  have HB1 := Aside0.mk hb1
  replace g0 := pw_cell_below hb1 g0
  replace g1 := pw_cell_below hb1 g1
  replace c1 := pw_cell_below hb1 c1
  replace c2 := pw_cell_below hb1 c2
  clear hb1
  go_wp2
  go_quiet (fail)
  go_wp2
  go_ret
  exact ⟨rfl, pw_below_drewN HB1.out _⟩
end Go.Proofs.Ytgcbfbdhibbpdaa.Tb.Pr
/- A table's methods Get, Set, Drop at every handle. -/
set_option linter.unusedVariables false
set_option linter.unusedSimpArgs false
namespace Go.Proofs.Ytgcbfbdhibbpdaa.Tb.Pr
open Go.RowKit Go.Proofs.YtgcbfbdhibbpdaaW.PrintWords Go.Proofs.YtgcbfbdhibbpdaaW.PrintLast Go.Proofs.YtgcbfbdhibbpdaaW.PrintMore
attribute [local go_sem] max2_int min2_int
def lvb (kd : Int) (sl : List S95) (hd : Int) : Bool := decide (4611686018427387904 ≤ hd) && (decide (ixn hd < sl.length) && ((sl.getD (ixn hd) z95).f1 && (decide (hd / 4611686018427387904 = kd) && decide (hd / 4294967296 % 1073741824 = (sl.getD (ixn hd) z95).f2))))
theorem lvb_yes {kd : Int} {sl : List S95} {hd : Int} (h : lvb kd sl hd = true) : LiveAt kd sl hd (ixn hd) := by
  unfold lvb at h
  simp only [Bool.and_eq_true, decide_eq_true_eq] at h
  obtain ⟨h1, h2, h3, h4, h5⟩ := h
  exact ⟨h1, by unfold ixn; omega, h2, h3, h4, h5⟩
theorem TB.len {w : World} {base : Nat} {ok : Nat → Prop} {g : Nat} {kd : Int} {sl : List S95} {fr : List Int} (h : TB w base ok g kd sl fr) : sl.length ≤ 9223372036854775807 := by
  obtain ⟨_, vs, _, hb2, hR, _⟩ := h
  exact (Kd.R_reads hR).choose_spec.choose_spec.2.2.2.1
theorem live_no {w : World} {base : Nat} {ok : Nat → Prop} {g : Nat} {kd : Int} {sl : List S95} {fr : List Int} (h : TB w base ok g kd sl fr) (hd : Int) (h0 : 0 ≤ hd) (hu : hd < 18446744073709551616) (hn : lvb kd sl hd = false) :
    Calls Try.prog 46 #[.pointer (some ⟨g, 0, none⟩), .int .u64 hd] w fun e w' => e = .returned (.pointer none) ∧ Below w.heap.size w w' := by
  have hlen := h.len
  obtain ⟨_, vs, vf, hb, hR, _⟩ := h
  by_cases c0 : hd < 4611686018427387904
  · exact live_none_a hd h0 c0 hb
  · have hix : hd % 4294967296 = (ixn hd : Nat) := by unfold ixn; omega
    by_cases c1 : ixn hd < sl.length
    · obtain ⟨sb, c, rfl, hbb, ho, hc, e0, e1, e2, hf⟩ := k95_at hR c1
      by_cases c2 : (sl.getD (ixn hd) z95).f1 = true
      · rw [c2] at e1
        refine live_none_d hd (by omega) hu hb hlen (ixn hd) hix c1 _ e1 e2 ?_
        intro hc3
        unfold lvb at hn
        rw [c2, decide_eq_true (by omega : 4611686018427387904 ≤ hd), decide_eq_true c1, decide_eq_true hc3.1, decide_eq_true hc3.2] at hn
        exact absurd hn (by decide)
      · rw [Bool.not_eq_true] at c2
        rw [c2] at e1
        exact live_none_c hd (by omega) hu hb hlen (ixn hd) hix c1 e1
    · obtain ⟨A, c, rfl⟩ := Kd.R_slice hR
      exact live_none_b hd (by omega) hu hb hlen (by omega)
/-! ### Drop -/
set_option maxHeartbeats 1000000 in
theorem drop_no {w : World} {base : Nat} {ok : Nat → Prop} {g : Nat} {kd : Int} {sl : List S95} {fr : List Int} (h : TB w base ok g kd sl fr) (hd : Int) (h0 : 0 ≤ hd) (hu : hd < 18446744073709551616) (hn : lvb kd sl hd = false) :
    Calls Try.prog 32 #[.pointer (some ⟨g, 0, none⟩), .int .u64 hd] w fun e w' => e = .returned (.bool false) ∧ Below w.heap.size w w' := by
  go_enter Try.func32, Try.ntmps32
  go_wp2_with fail
  refine (live_no h hd h0 hu hn).mono ?_
  rintro e w1 ⟨rfl, hb1⟩
  go_wp2
  go_ret
  exact ⟨rfl, hb1⟩
theorem drop_calls {w : World} {base : Nat} {ok : Nat → Prop} {g : Nat} {kd : Int} {sl : List S95} {fr : List Int} (h : TB w base ok g kd sl fr) (hd : Int) (h0 : 0 ≤ hd) (hu : hd < 18446744073709551616) (hbase : base ≤ w.heap.size) (hfresh : ∀ k, w.heap.size ≤ k → ok k) (hgn : ∀ x ∈ sl, 0 ≤ x.f2 ∧ x.f2 < 1073741824) (hfl : fr.length ≤ 1000) :
    Calls Try.prog 32 #[.pointer (some ⟨g, 0, none⟩), .int .u64 hd] w fun e w' => e = .returned (.bool (lvb kd sl hd)) ∧ TB w' base ok g kd (if lvb kd sl hd then sl.set (ixn hd) ⟨(⟨#[]⟩, ⟨#[]⟩), false, nx (sl.getD (ixn hd) z95).f2⟩ else sl) (if lvb kd sl hd then fr ++ [(ixn hd : Int)] else fr) ∧ Fr base ok w w' := by
  cases c : lvb kd sl hd with
  | false =>
    refine (drop_no h hd h0 hu c).mono ?_
    rintro e w1 ⟨rfl, hb1⟩
    exact ⟨rfl, h.below hb1, Fr.of_below hb1 hbase⟩
  | true =>
    have hl := lvb_yes c
    refine drop_yes h hd hu hl hbase hfresh ?_ hfl
    have hlt := hl.lt
    rw [List.getD_eq_getElem?_getD, List.getElem?_eq_getElem hlt]
    exact hgn _ (List.getElem_mem hlt)
end Go.Proofs.Ytgcbfbdhibbpdaa.Tb.Pr
/- A table's method Add, where a slot is free. -/
set_option linter.unusedVariables false
set_option linter.unusedSimpArgs false
namespace Go.Proofs.Ytgcbfbdhibbpdaa.Tb.Pr
open Go.RowKit Go.Proofs.YtgcbfbdhibbpdaaW.PrintWords Go.Proofs.YtgcbfbdhibbpdaaW.PrintLast Go.Proofs.YtgcbfbdhibbpdaaW.PrintMore
attribute [local go_sem] max2_int min2_int
theorem grown_refl (w : World) (row : Option Nat) : w.grownBy w row := ⟨rfl, rfl, rfl, Nat.le_refl _, fun _ _ _ => rfl⟩
theorem slot_add {w : World} {base : Nat} {ok : Nat → Prop} {g : Nat} {kd : Int} {sl : List S95} {fr : List Int} {sb c : Nat} {vf : Value} (h : TB w base ok g kd sl fr) (hb : w.heap[g]? = some (.cells #[.int .i64 kd, .slice (some ⟨sb, 0, none⟩) sl.length c, vf] 93 (0, 0))) {i : Nat} (hi : i < sl.length) (a b : ByteArray) :
    TB (((w.setCell ⟨sb, i * 4, none⟩ (.string a)).setCell ⟨sb, i * 4 + 1, none⟩ (.string b)).setCell ⟨sb, i * 4 + 2, none⟩ (.bool true)) base ok g kd (sl.set i ⟨(a, b), true, (sl.getD i z95).f2⟩) fr ∧ Fr base ok w (((w.setCell ⟨sb, i * 4, none⟩ (.string a)).setCell ⟨sb, i * 4 + 1, none⟩ (.string b)).setCell ⟨sb, i * 4 + 2, none⟩ (.bool true)) ∧ (((w.setCell ⟨sb, i * 4, none⟩ (.string a)).setCell ⟨sb, i * 4 + 1, none⟩ (.string b)).setCell ⟨sb, i * 4 + 2, none⟩ (.bool true)).heap[g]? = some (.cells #[.int .i64 kd, .slice (some ⟨sb, 0, none⟩) sl.length c, vf] 93 (0, 0)) := by
  obtain ⟨h0, vs, vf2, hb2, hR, hF⟩ := h
  rw [hb] at hb2
  obtain ⟨rfl, e3'⟩ : vs = .slice (some ⟨sb, 0, none⟩) sl.length c ∧ vf = vf2 := by
    simp only [Option.some.injEq, Obj.cells.injEq] at hb2
    have := hb2.1
    simp only [Array.mk.injEq, List.cons.injEq] at this
    exact ⟨this.2.1.symm, this.2.2.1⟩
  subst e3'
  obtain ⟨sb', c', he, hbb, ho, hc, e0, e1, e2, hf⟩ := k95_at hR hi
  obtain ⟨e1', e2'⟩ : sb = sb' ∧ c = c' := by
    simp only [Value.slice.injEq, Option.some.injEq, Addr.mk.injEq] at he
    exact ⟨he.1.1, he.2.2⟩
  subst e1' e2'
  clear e0 e1 e2 hf
  obtain ⟨cs, hcl, hM, hcc, hfr⟩ := Kd.R_elem hR z95 (i : Int) (by omega) (by omega)
  have hMM : (i : Int).toNat * k95.sz = i * 4 := by rw [Int.toNat_natCast]; rfl
  have hcs := k95_openM hM
  rw [Int.toNat_natCast] at hcs
  subst hcs
  have hs := Kd.R_seg hR (i : Int) (by omega) (by omega) (seg := [.string a, .string b, .bool true]) (j := 0) (x' := (⟨(a, b), true, (sl.getD i z95).f2⟩ : S95)) (okp := fun _ => False) hcl hcc (show 0 + 3 ≤ 4 by decide) (k95_mkM w base _ ⟨(a, b), true, (sl.getD i z95).f2⟩) (fun _ h => h.elim)
  rw [hMM, Int.toNat_natCast] at hs
  have hsw : w.setCells sb (i * 4 + 0) [.string a, .string b, .bool true] = (((w.setCell ⟨sb, i * 4, none⟩ (.string a)).setCell ⟨sb, i * 4 + 1, none⟩ (.string b)).setCell ⟨sb, i * 4 + 2, none⟩ (.bool true)) := rfl
  rw [hsw] at hs
  have hgs : g ≠ sb := by
    intro e
    obtain ⟨cells, hc⟩ := hc
    rw [← e, hb] at hc
    simp at hc
  have hk : ∀ k, k ≠ sb → (((w.setCell ⟨sb, i * 4, none⟩ (.string a)).setCell ⟨sb, i * 4 + 1, none⟩ (.string b)).setCell ⟨sb, i * 4 + 2, none⟩ (.bool true)).heap[k]? = w.heap[k]? := fun k hk => (Below.heap_setCell _ _ _ _ hk).trans ((Below.heap_setCell _ _ _ _ hk).trans (Below.heap_setCell _ _ _ _ hk))
  have hlen : (sl.set i ⟨(a, b), true, (sl.getD i z95).f2⟩).length = sl.length := by simp
  have hgb := (hk g hgs).trans hb
  refine ⟨⟨h0, .slice (some ⟨sb, 0, none⟩) sl.length c, vf, hgb, hs.1, ?_⟩, (((Fr.refl base ok w).set hbb ho _ _).set hbb ho _ _).set hbb ho _ _, hgb⟩
  obtain ⟨cells, hc⟩ := hc
  exact Kd.R_mono (Kd.R_step (Kd.R_types hF hc (by decide)) (fun k hk2 _ => hk k hk2.2)) (fun k hk => hk.1)
set_option maxRecDepth 4000 in
set_option maxHeartbeats 600000 in
theorem add_old {w : World} {base : Nat} {ok : Nat → Prop} {g : Nat} {kd : Int} {sl : List S95} {f : List Int} {i : Nat} (h : TB w base ok g kd sl (f ++ [(i : Int)])) (a b : ByteArray) (hk : 1 ≤ kd ∧ kd ≤ 3) (hi : i < sl.length) (hbase : base ≤ w.heap.size) (hgn : 0 ≤ (sl.getD i z95).f2 ∧ (sl.getD i z95).f2 < 1073741824) (hfl : f.length ≤ 1000) :
    Calls Try.prog 31 #[.pointer (some ⟨g, 0, none⟩), .agg #[.string a, .string b]] w fun e w' => e = .returned (.int .u64 (pk kd i (sl.getD i z95).f2)) ∧ TB w' base ok g kd (sl.set i ⟨(a, b), true, (sl.getD i z95).f2⟩) f ∧ Fr base ok w w' := by
  have hT := h
  have HBX := Aside0.mk (heap_alloc_new w (.cells #[.string a, .string b] 68))
  have HBL := Aside0.mk (below_alloc (Below.refl w.heap.size w) (.cells #[.string a, .string b] 68))
  have HBS := Aside0.mk (show w.heap.size < (w.alloc (.cells #[.string a, .string b] 68)).heap.size by simp)
  obtain ⟨_, vs, vf, hb, hR, hF⟩ := h
  obtain ⟨A2, c2, rfl⟩ := Kd.R_slice hF
  have hlen : (f ++ [(i : Int)]).length = f.length + 1 := by simp
  rw [hlen] at hb hF
  obtain ⟨fb, fc, hfe, hfb, hflt, fcells⟩ := Kd.R_form hF (by omega)
  obtain ⟨fcs, hfcl, hfM, hfcc, hffr⟩ := Kd.R_elem (by rw [hfe] at hF; exact hF) (0 : Int) (f.length : Int) (by omega) (by omega)
  have hfv : fcs = [.int .i64 (i : Int)] := by
    have e : fcs = [.int .i64 ((f ++ [(i : Int)]).getD (f.length : Int).toNat 0)] := hfM
    rw [e, Int.toNat_natCast]
    simp
  subst hfv
  have e3 := hfcc 0 _ rfl
  have hmm : (f.length : Int).toNat * (Kd.int .i64).sz + 0 = f.length := by rw [Int.toNat_natCast]; show f.length * 1 + 0 = f.length; omega
  rw [hmm] at e3
  obtain ⟨sb, c, rfl, hbb, ho, hc, e0, e1, e2, hf⟩ := k95_at hR hi
  have f0 := hf 0
  have f1 := hf 2
  rw [Nat.add_zero] at f0
  obtain ⟨e0, eg⟩ := e0
  have HSL := Aside0.mk (World.block_lt_of_cell? w _ e0)
  have hsl := hT.lt
  have hlenS : sl.length ≤ 9223372036854775807 := (Kd.R_reads hR).choose_spec.choose_spec.2.2.2.1
  have hin1 : 0 ≤ (i : Int) ∧ (i : Int) < (sl.length : Int) := by omega
  have hin2 : (i : Int) < (sl.length : Int) := by omega
  have hp0 : handle_Pack.f kd 0 0 = some (pk kd 0 0) := pack_is kd 0 0 (by omega) (by omega) (by omega)
  have hp1 : ¬ pk kd 0 0 = 0 := by unfold pk; rw [if_pos (by omega)]; omega
  obtain ⟨p, hp⟩ : ∃ p, p = pk kd 0 0 := ⟨_, rfl⟩
  rw [← hp] at hp0 hp1
  have hp2 : (p == 0) = false := by simpa using hp1
  have g0 := blk3_0 hb
  have g1 := blk3_1 hb
  have g2 := blk3_2 hb
  have gf := blk3_f hb 2
  injection hfe with hfe1 hfe2 hfe3
  subst hfe1
  clear hfe2 hfe3 hmm
  have hfI : (f.length : Int) ≤ 1000 := by omega
  have hcap : f.length + 1 ≤ c2 := (Kd.R_reads' hF).2.1
  obtain ⟨ii, hii, hz0, hz1, hz2⟩ := info_parts info3
  have hcut : ∀ W : World, (Instr.slice 29 (.slice (some ⟨fb, 0, none⟩) (f.length + 1) c2) none (some (.int .i64 (f.length : Int))) none).run Try.prog W = .ok (.slice (some ⟨fb, 0, none⟩) f.length c2) W := by
    have := cut_to (P := Try.prog) 29 3 .i64 Try.underlying29 hii (some ⟨fb, 0, none⟩) (f.length + 1) c2 (f.length : Int) (by omega) (by omega) hcap
    simpa only [Int.toNat_natCast] using this
  clear hcap hii hz0 hz1 hz2
  have HT := Aside0.mk hT
  have HB := Aside0.mk hb
  have HR := Aside0.mk hR
  have HF := Aside0.mk hF
  have HP0 := Aside0.mk hp0
  have HK := Aside0.mk hk
  have HGN := Aside0.mk hgn
  clear hT hb hR hF hfcc hfM hffr hfcl hlen hp hp0 hc hf hk hgn
  go_enter Try.func31, Try.ntmps31
  go_wp2_with fail
  refine (handle_Pack.calls kd 0 0 p _ HP0.out).mono ?_
  rintro e w1 ⟨rfl, hd1⟩
  have hb1 := HBL.out.trans (hd1.below.mono HBL.out.size)
  have HBXW := Aside0.mk ((hd1.below.block _ HBS.out).trans HBX.out)
  have HB1 := Aside0.mk hb1
  replace f0 : w1.frozen? ⟨sb, i * 4, none⟩ = false := (hb1.frozen (World.block_lt_of_cell? w _ e0)).trans f0
  replace f1 : w1.frozen? ⟨sb, i * 4 + 2, none⟩ = false := (hb1.frozen (World.block_lt_of_cell? w _ e1)).trans f1
  replace gf : w1.frozen? ⟨g, 2, none⟩ = false := (hb1.frozen (World.block_lt_of_cell? w _ g2)).trans gf
  replace g0 := pw_cell_below hb1 g0
  replace g1 := pw_cell_below hb1 g1
  replace g2 := pw_cell_below hb1 g2
  replace e0 := pw_cell_below hb1 e0
  replace e1 := pw_cell_below hb1 e1
  replace e2 := pw_cell_below hb1 e2
  replace e3 := pw_cell_below hb1 e3
  have hbw := Aside0.mk ((hb1.block _ HT.out.lt).trans HB.out)
  have HPW := Aside0.mk ((HT.out.below hb1).parts hbw.out)
  have HN := Aside0.mk (TB.free_new HPW.out.1 hbw.out HPW.out.2.1 HPW.out.2.2 (grown_refl w1 _) (Kd.R_take (m := f.length) HPW.out.2.2 (by simp)))
  clear hb1 hd1
  go_wp2_with fail
  obtain ⟨W1, hW1⟩ : ∃ W, W = w1.setCell ⟨g, 2, none⟩ (.slice (some ⟨fb, 0, none⟩) f.length c2) := ⟨_, rfl⟩
  rw [← hW1]
  have HN2 := HN.out
  rw [List.take_left' rfl, ← hW1] at HN2
  have hbW : W1.heap[g]? = some (.cells #[.int .i64 kd, .slice (some ⟨sb, 0, none⟩) sl.length c, .slice (some ⟨fb, 0, none⟩) f.length c2] 93 (0, 0)) := by rw [hW1]; exact set3_2 hbw.out
  have HBW := Aside0.mk hbW
  obtain ⟨sb2, cc, he, _, _, hc2, e0', e1', _, hf'⟩ := k95_at (HN2.1.parts hbW).2.1 hi
  simp only [Value.slice.injEq, Option.some.injEq, Addr.mk.injEq] at he
  have hsb := he.1.1
  subst hsb
  have f0' := hf' 0
  obtain ⟨e0', eg'⟩ := e0'
  have f1' := hf' 1
  have f2' := hf' 2
  rw [Nat.add_zero] at f0'
  have hsne : ¬ sb = w.heap.size := Nat.ne_of_lt HSL.out
  have hsne2 : ¬ w.heap.size = sb := Ne.symm hsne
  have hbx : W1.heap[w.heap.size]? = some (.cells #[.string a, .string b] 68 (0, 0)) := by rw [hW1]; exact (Below.heap_setCell _ _ _ _ (Nat.ne_of_gt HT.out.lt)).trans HBXW.out
  have b0 : W1.cell? ⟨w.heap.size, 0, none⟩ = some (.string a) := by simp [World.cell?, hbx]
  have b1 : W1.cell? ⟨w.heap.size, 1, none⟩ = some (.string b) := by simp [World.cell?, hbx]
  clear hbx
  have HNN := Aside0.mk HN2
  have HS := Aside0.mk (slot_add HN2.1 hbW hi a b)
  replace g1 := blk3_1 hbW
  clear hW1 g0 g2 gf e2 e3 hfl hfI hcut e0 e1 f0 f1 HN2 hbW hf' he
  have hin : ((i : Int)) < (sl.length : Int) := hin2
  go_region
  have HTT := Aside0.mk ((HS.out.1.step (w1 := (((W1.setCell ⟨sb, i * 4, none⟩ (.string a)).setCell ⟨sb, i * 4 + 1, none⟩ (.string b)).setCell ⟨sb, i * 4 + 2, none⟩ (.bool true)).drew) (fun _ _ _ => rfl)))
  go_wp2_with fail
  refine (handle_calls HTT.out (i := i) (by simpa using hi) (by have := HK.out; omega) (by have := HGN.out; rw [List.getD_eq_getElem?_getD, List.getElem?_set_self hi]; simp only [Option.getD_some]; omega)).mono ?_
  rintro e w9 ⟨rfl, n9, rfl⟩
  go_wp2
  go_ret
  have hb9 := HS.out.2.1.b
  have hk9 := HS.out.2.1.k
  refine ⟨?_, HTT.out.step (fun _ _ _ => rfl), ((Fr.of_below HB1.out hbase).trans HNN.out.2).trans ⟨⟨hb9.os, hb9.tape, hb9.output, hb9.size, hb9.block⟩, hk9⟩⟩
  show Ending.returned (.int .u64 (pk kd i sl[i].f2)) = _
  rw [List.getD_eq_getElem?_getD, List.getElem?_eq_getElem hi]
  rfl
end Go.Proofs.Ytgcbfbdhibbpdaa.Tb.Pr
/- A table's method Add, where no slot is free. -/
set_option linter.unusedVariables false
set_option linter.unusedSimpArgs false
namespace Go.Proofs.Ytgcbfbdhibbpdaa.Tb.Pr
open Go.RowKit Go.Proofs.YtgcbfbdhibbpdaaW.PrintWords Go.Proofs.YtgcbfbdhibbpdaaW.PrintLast Go.Proofs.YtgcbfbdhibbpdaaW.PrintMore
attribute [local go_sem] max2_int min2_int
theorem box_apart {w w1 : World} {base : Nat} {ok2 : Nat → Prop} {α : Type} {d : Kd α} {e : Nat} {g : Nat} {cs : Array Value} {vf : Value} {fr : List α} (hb : w.heap[g]? = some (.cells cs 68 (0, 0))) (hF : d.R e w base ok2 vf fr) (he : e ≠ 68) (hg : w.grownBy w1 vf.ownBlock) : w1.heap[g]? = some (.cells cs 68 (0, 0)) := by
  refine (hg.block g (lt_of_block hb) ?_).trans hb
  intro hv
  obtain ⟨cells, hc⟩ := own_typed (Kd.R_own hF).choose_spec g hv.symm
  rw [hb] at hc
  injection hc with hc; injection hc with _ h2 _
  exact he h2.symm
set_option maxRecDepth 4000 in
set_option maxHeartbeats 2000000 in
theorem add_new {w : World} {base : Nat} {ok : Nat → Prop} {g : Nat} {kd : Int} {sl : List S95} (h : TB w base ok g kd sl []) (a b : ByteArray) (hk : 1 ≤ kd ∧ kd ≤ 3) (hbase : base ≤ w.heap.size) (hfresh : ∀ k, w.heap.size ≤ k → ok k) (hsl : sl.length ≤ 1000) :
    Calls Try.prog 31 #[.pointer (some ⟨g, 0, none⟩), .agg #[.string a, .string b]] w fun e w' => e = .returned (.int .u64 (pk kd sl.length 0)) ∧ TB w' base ok g kd (sl ++ [⟨(a, b), true, 0⟩]) [] ∧ Fr base ok w w' := by
  have hT := h
  have HBX := Aside0.mk (heap_alloc_new w (.cells #[.string a, .string b] 68))
  have HBL := Aside0.mk (below_alloc (Below.refl w.heap.size w) (.cells #[.string a, .string b] 68))
  have HBS := Aside0.mk (show w.heap.size < (w.alloc (.cells #[.string a, .string b] 68)).heap.size by simp)
  obtain ⟨h0, vs, vf, hb, hR, hF⟩ := h
  obtain ⟨A2, c2, rfl⟩ := Kd.R_slice hF
  obtain ⟨A1, c1, rfl⟩ := Kd.R_slice hR
  rw [List.length_nil] at hb hF
  have hp0 : handle_Pack.f kd 0 0 = some (pk kd 0 0) := pack_is kd 0 0 (by omega) (by omega) (by omega)
  have hp1 : ¬ pk kd 0 0 = 0 := by unfold pk; rw [if_pos (by omega)]; omega
  obtain ⟨p, hp⟩ : ∃ p, p = pk kd 0 0 := ⟨_, rfl⟩
  rw [← hp] at hp0 hp1
  have hp2 : (p == 0) = false := by simpa using hp1
  have g0 := blk3_0 hb
  have g1 := blk3_1 hb
  have g2 := blk3_2 hb
  have gf := blk3_f hb 1
  have hlt0 := hT.lt
  have HT := Aside0.mk hT
  have HB := Aside0.mk hb
  have HP0 := Aside0.mk hp0
  have HK := Aside0.mk hk
  have HSL := Aside0.mk hsl
  clear hT hb hR hF hp hp0 hk
  go_enter Try.func31, Try.ntmps31
  go_wp2_with fail
  refine (handle_Pack.calls kd 0 0 p _ HP0.out).mono ?_
  rintro e w1 ⟨rfl, hd1⟩
  have hb1 := HBL.out.trans (hd1.below.mono HBL.out.size)
  have HBXW := Aside0.mk ((hd1.below.block _ HBS.out).trans HBX.out)
  have HB1 := Aside0.mk hb1
  replace gf : w1.frozen? ⟨g, 1, none⟩ = false := (hb1.frozen (World.block_lt_of_cell? w _ g1)).trans gf
  replace g0 := pw_cell_below hb1 g0
  replace g1 := pw_cell_below hb1 g1
  replace g2 := pw_cell_below hb1 g2
  have hbw := Aside0.mk ((hb1.block _ HT.out.lt).trans HB.out)
  have HPW := Aside0.mk ((HT.out.below hb1).parts hbw.out)
  have HBB := Aside0.mk (hb1.mono hbase)
  clear hb1 hd1
  go_wp2_with (at_builtin; refine Kd.R_append k95 (w0 := w) base rfl _ _ 91 95 _ 48 rfl Try.underlying91 info95 rfl (show 0 < 4 by decide) (by decide) (.slice A1 sl.length c1) sl z95 [.string (⟨#[]⟩ : ByteArray), .string (⟨#[]⟩ : ByteArray), .bool false, .int .i64 0] ok (fun _ => False) rfl (by first | rfl | (go_simp; done) | (simp; done)) (k95_mkM _ _ _ z95) (fun _ h => h.elim) (fun k hk => hfresh k (Nat.le_trans HBB.out.size hk)) HPW.out.2.1 HBB.out (Nat.le_trans hbase HBB.out.size) (by have := HSL.out; omega) ?_; intro v1 w5 hR5 hb5 hg5 hat5; have hb6 := block_apart hbw.out HPW.out.2.1 (by decide) hg5; have HBX6 := Aside0.mk (box_apart HBXW.out HPW.out.2.1 (by decide) hg5); have g6 := blk3_1 hb6; have f6 := blk3_f hb6 1; obtain ⟨sb, cc, rfl, hsbb, hsbl, hsbc⟩ := Kd.R_form hR5 (by simp); have HE := Aside0.mk (TB.slots_new HPW.out.1 hbw.out HPW.out.2.1 HPW.out.2.2 hg5 hR5); have HS6 := Aside0.mk (set3_1 (u := .slice (some ⟨sb, 0, none⟩) (sl ++ [z95]).length cc) hb6); clear hb6 hg5 hR5 hb5 hat5 hsbc)
  obtain ⟨W1, hW1⟩ : ∃ W, W = w5.setCell ⟨g, 1, none⟩ (.slice (some ⟨sb, 0, none⟩) (sl.length + 1) cc) := ⟨_, rfl⟩
  rw [← hW1]
  have hlen : (sl ++ [z95]).length = sl.length + 1 := by simp
  have HN2 := HE.out
  have hbW := HS6.out
  rw [hlen, ← hW1] at HN2 hbW
  have hi : sl.length < (sl ++ [z95]).length := by simp
  obtain ⟨i, hii⟩ : ∃ i, i = sl.length := ⟨_, rfl⟩
  obtain ⟨L, hL⟩ : ∃ L, L = sl ++ [z95] := ⟨_, rfl⟩
  have hset : L.set i ⟨(a, b), true, 0⟩ = sl ++ [⟨(a, b), true, 0⟩] := by rw [hL, hii]; simp
  have hget : L.getD i z95 = z95 := by rw [hL, hii]; simp
  rw [← hL] at HN2 hi hlen
  rw [← hii] at hi
  rw [← hlen] at hbW
  have HSET := Aside0.mk hset
  obtain ⟨sb2, c3, he, hsb3, ho3, hc3, e0', e1', _, hf'⟩ := k95_at (HN2.1.parts hbW).2.1 hi
  simp only [Value.slice.injEq, Option.some.injEq, Addr.mk.injEq] at he
  have hsb := he.1.1
  subst hsb
  have f0' := hf' 0
  obtain ⟨e0', eg'⟩ := e0'
  have f1' := hf' 1
  have f2' := hf' 2
  rw [Nat.add_zero] at f0'
  have hbx : W1.heap[w.heap.size]? = some (.cells #[.string a, .string b] 68 (0, 0)) := by rw [hW1]; exact (Below.heap_setCell _ _ _ _ (Nat.ne_of_gt HT.out.lt)).trans HBX6.out
  have hsne : ¬ sb = w.heap.size := by
    obtain ⟨cells, hc3⟩ := hc3
    intro e
    rw [e, hbx] at hc3
    simp at hc3
  have hsne2 : ¬ w.heap.size = sb := Ne.symm hsne
  have b0 : W1.cell? ⟨w.heap.size, 0, none⟩ = some (.string a) := by simp [World.cell?, hbx]
  have b1 : W1.cell? ⟨w.heap.size, 1, none⟩ = some (.string b) := by simp [World.cell?, hbx]
  clear hbx hc3
  have HNN := Aside0.mk HN2
  have HS := Aside0.mk (slot_add HN2.1 hbW hi a b)
  replace g1 := blk3_1 hbW
  have hin0 : ((i : Int)) < (L.length : Int) := by omega
  have hin1 : 0 ≤ (i : Int) ∧ ((i : Int)) < (L.length : Int) := by omega
  have HII := Aside0.mk hii
  have HGET := Aside0.mk hget
  rw [← hii]
  clear hW1 g0 g2 gf g6 f6 HN2 hbW hf' he hlen hset hget hL hii
  go_region
  have HTT := Aside0.mk ((HS.out.1.step (w1 := (((W1.setCell ⟨sb, i * 4, none⟩ (.string a)).setCell ⟨sb, i * 4 + 1, none⟩ (.string b)).setCell ⟨sb, i * 4 + 2, none⟩ (.bool true)).drew) (fun _ _ _ => rfl)))
  rw [HGET.out] at HTT HS
  have hg2 : ((L.set i ⟨(a, b), true, z95.f2⟩).getD i z95).f2 = 0 := by rw [List.getD_eq_getElem?_getD, List.getElem?_set_self hi]; rfl
  have HHC := Aside0.mk (handle_calls HTT.out (i := i) (by simpa using hi) (by have := HK.out; omega) (by rw [hg2]; omega))
  rw [hg2] at HHC
  go_wp2_with fail
  refine HHC.out.mono ?_
  rintro e w9 ⟨rfl, n9, rfl⟩
  go_wp2
  have hz0 : (z95).f2 = 0 := rfl
  rw [hz0] at HTT HS
  rw [HSET.out] at HTT
  have hii := HII.out
  subst hii
  go_ret
  have hb9 := HS.out.2.1.b
  have hk9 := HS.out.2.1.k
  exact ⟨rfl, HTT.out.step (fun _ _ _ => rfl), ((Fr.of_below HB1.out hbase).trans HNN.out.2).trans ⟨⟨hb9.os, hb9.tape, hb9.output, hb9.size, hb9.block⟩, hk9⟩⟩
end Go.Proofs.Ytgcbfbdhibbpdaa.Tb.Pr
/- A table of pairs of strings: Handles. -/
set_option linter.unusedVariables false
set_option linter.unusedSimpArgs false
namespace Go.Proofs.Ytgcbfbdhibbpdaa.Tb.Pr
open Go.RowKit Go.Proofs.YtgcbfbdhibbpdaaW.PrintWords Go.Proofs.YtgcbfbdhibbpdaaW.PrintLast Go.Proofs.YtgcbfbdhibbpdaaW.PrintMore
attribute [local go_sem] max2_int min2_int
/-- The handles of the slots from i on. -/
def hfrom (kd : Int) : List S95 → Int → List Int
  | [], _ => []
  | x :: t, i => if x.f1 = true then pk kd i x.f2 :: hfrom kd t (i + 1) else hfrom kd t (i + 1)
theorem hfrom_append (kd : Int) (a b : List S95) (i : Int) : hfrom kd (a ++ b) i = hfrom kd a i ++ hfrom kd b (i + a.length) := by
  induction a generalizing i with
  | nil => simp [hfrom]
  | cons x t ih =>
    have e : i + 1 + (t.length : Int) = i + ((x :: t).length : Int) := by simp; omega
    simp only [List.cons_append, hfrom]
    rw [ih (i + 1), e]
    split <;> simp
theorem hfrom_take (kd : Int) (sl : List S95) (k : Nat) (hk : k < sl.length) : hfrom kd (sl.take (k + 1)) 0 = hfrom kd (sl.take k) 0 ++ (if (sl.getD k z95).f1 = true then [pk kd k (sl.getD k z95).f2] else []) := by
  rw [List.take_succ_eq_append_getElem hk, hfrom_append]
  congr 1
  have e : sl.getD k z95 = sl[k] := by rw [List.getD_eq_getElem?_getD, List.getElem?_eq_getElem hk]; rfl
  rw [e]
  have hl : (sl.take k).length = k := by simp; omega
  simp only [hfrom, hl]
  rw [Int.zero_add]
theorem hfrom_len (kd : Int) (sl : List S95) (i : Int) : (hfrom kd sl i).length ≤ sl.length := by
  induction sl generalizing i with
  | nil => simp [hfrom]
  | cons x t ih =>
    have := ih (i + 1)
    simp only [hfrom]
    split <;> simp <;> omega
set_option maxRecDepth 100000 in
set_option maxHeartbeats 4000000 in
theorem handles_calls {w : World} {base : Nat} {ok : Nat → Prop} {g : Nat} {kd : Int} {sl : List S95} {fr : List Int} (h : TB w base ok g kd sl fr) (hk : -9223372036854775808 ≤ kd ∧ kd ≤ 9223372036854775807) (hgn : ∀ x ∈ sl, 0 ≤ x.f2 ∧ x.f2 < 1073741824) (hsl : sl.length ≤ 1000) :
    Calls Try.prog 34 #[.pointer (some ⟨g, 0, none⟩)] w fun e w' => ∃ v, e = .returned v ∧ (Kd.int .u64).R 27 w' w.heap.size (fun _ => True) v (hfrom kd sl 0) ∧ Below w.heap.size w w' := by
  have HT := Aside0.mk h
  have HK := Aside0.mk hk
  have HGN := Aside0.mk hgn
  obtain ⟨_, vs, vf, hb, hR, hF⟩ := h
  obtain ⟨A1, c1, rfl⟩ := Kd.R_slice hR
  have g1 := blk3_1 hb
  have HB := Aside0.mk hb
  have HR := Aside0.mk hR
  clear hb hR hF hk hgn
  go_enter Try.func34, Try.ntmps34
  go_wp2_with fail
  go_loopw [3, 13] (fun v i wr => ∃ k : Nat, k ≤ sl.length ∧ i = .int .i64 k ∧ Aside0 ((Kd.int .u64).R 27 wr w.heap.size (fun _ => True) v (hfrom kd (sl.take k) 0)) ∧ Aside0 (Below w.heap.size w wr)) (fun _ i _ => sl.length - (intOf i).toNat)
  case atStart => exact ⟨0, Nat.zero_le _, rfl, ⟨Kd.R_nil _ _ _ _ _⟩, ⟨Below.refl _ _⟩⟩
  case round =>
    obtain ⟨k, hk, rfl, hV, hB⟩ := hrel
    by_cases hlt : k < sl.length
    · have hT := HT.out.below hB.out
      obtain ⟨A9, c9, hv9⟩ := Kd.R_slice hV.out
      subst hv9
      obtain ⟨sb, c, he, hbb, ho, hc, e0, e1, e2, hf⟩ := k95_at (hT.parts ((hB.out.block _ HT.out.lt).trans HB.out)).2.1 hlt
      simp only [Value.slice.injEq, Option.some.injEq] at he
      obtain ⟨he1, _, he3⟩ := he
      subst he1 he3
      obtain ⟨x0, hx0⟩ : ∃ x, x = (sl.getD k z95).f0.1 := ⟨_, rfl⟩
      obtain ⟨x1, hx1⟩ : ∃ x, x = (sl.getD k z95).f1 := ⟨_, rfl⟩
      obtain ⟨x2, hx2⟩ : ∃ x, x = (sl.getD k z95).f2 := ⟨_, rfl⟩
      obtain ⟨e0, eg⟩ := e0
      obtain ⟨y0, hy0⟩ : ∃ y, y = (sl.getD k z95).f0.2 := ⟨_, rfl⟩
      rw [← hx0] at e0
      rw [← hy0] at eg
      rw [← hx1] at e1
      rw [← hx2] at e2
      have hin1 : 0 ≤ (k : Int) ∧ (k : Int) < (sl.length : Int) := by omega
      have hin2 : (k : Int) < (sl.length : Int) := by omega
      have hg2 : 0 ≤ x2 ∧ x2 < 1073741824 := by
        rw [hx2, List.getD_eq_getElem?_getD, List.getElem?_eq_getElem hlt]
        exact HGN.out _ (List.getElem_mem hlt)
      have HX := Aside0.mk (hfrom_take kd sl k hlt)
      rw [← hx1, ← hx2] at HX
      have HC := Aside0.mk (fun (W : World) (hW : Below wr.heap.size wr W) => handle_calls (hT.below hW) hlt HK.out (by rw [← hx2]; omega))
      rw [← hx2] at HC
      have HL := Aside0.mk (show (hfrom kd (sl.take k) 0).length ≤ 1000 by have := hfrom_len kd (sl.take k) 0; simp at this; omega)
      have HT2 := Aside0.mk hT
      clear hx0 hy0 hx1 hx2 hc ho hbb hf hT hg2
      cases x1 with
      | false =>
        go_wp2_with fail
        go_roundw
        case rel => exact ⟨k + 1, by omega, by go_num, ⟨by rw [HX.out, if_neg (by decide), List.append_nil]; exact Kd.R_alloc hV.out _⟩, ⟨below_alloc hB.out _⟩⟩
        case measure => simp [intOf]; omega
      | true =>
        go_wp2_with fail
        refine (HC.out _ (below_alloc (Below.refl _ _) _)).mono ?_
        rintro e w5 ⟨rfl, n5, rfl⟩
        have HV5 := Aside0.mk (Kd.R_drewN (Kd.R_alloc hV.out (.cells #[.string x0, .string y0, .bool true, .int .i64 x2] 95)) n5)
        have HB5 := Aside0.mk (pw_below_drewN (below_alloc hB.out (.cells #[.string x0, .string y0, .bool true, .int .i64 x2] 95)) n5)
        generalize (wr.alloc (.cells #[.string x0, .string y0, .bool true, .int .i64 x2] 95)).drewN n5 = W5 at HV5 HB5 ⊢
        go_wp2_with (at_builtin; refine Kd.R_append (Kd.int .u64) (w0 := w) w.heap.size rfl _ _ 26 27 _ 8 rfl Try.underlying26 info27 rfl (show 0 < 1 by decide) (by decide) (.slice A9 (hfrom kd (sl.take k) 0).length c9) (hfrom kd (sl.take k) 0) (pk kd k x2) [.int .u64 (pk kd k x2)] (fun _ => True) (fun _ => False) rfl (by first | rfl | (go_simp; done) | (simp; done)) rfl (fun _ h => h.elim) (fun _ _ => trivial) HV5.out HB5.out HB5.out.size (by have := HL.out; omega) ?_; intro v1 w6 hR6 hb6 hg6 hat6; have HR6 := Aside0.mk hR6; have HB6 := Aside0.mk hb6; clear hg6 hat6 hR6 hb6)
        go_roundw
        case rel => exact ⟨k + 1, by omega, by go_num, ⟨by rw [HX.out, if_pos (by trivial)]; exact HR6.out⟩, HB6⟩
        case measure => simp [intOf]; omega
    · go_wp2
      go_ret
      have e : sl.take k = sl := List.take_of_length_le (by omega)
      rw [e] at hV
      exact ⟨_, rfl, hV.out, hB.out⟩
end Go.Proofs.Ytgcbfbdhibbpdaa.Tb.Pr
/- A table's methods, told by owners; what they do, plainly. -/
set_option linter.unusedVariables false
set_option linter.unusedSimpArgs false
namespace Go.Proofs.Ytgcbfbdhibbpdaa.Tb.Pr
open Go.RowKit Go.Proofs.YtgcbfbdhibbpdaaW.PrintWords Go.Proofs.YtgcbfbdhibbpdaaW.PrintLast Go.Proofs.YtgcbfbdhibbpdaaW.PrintMore
theorem TB_up {w : World} {base : Nat} {own : Nat → Nat} {i j g : Nat} {kd : Int} {sl : List S95} {fr : List Int} (h : TB w base (tg own i) g kd sl fr) : TB w base (tg (up own w.heap.size j) i) g kd sl fr := h.mono (fun k hk ho => (up_old hk).trans ho)
theorem TB_pass {w w' : World} {base : Nat} {own : Nat → Nat} {i j g : Nat} {kd : Int} {sl : List S95} {fr : List Int} (h : TB w base (tg own i) g kd sl fr) (hf : Fr base (tg (up own w.heap.size j) j) w w') (hij : i ≠ j) : TB w' base (tg (up own w.heap.size j) i) g kd sl fr :=
  (TB_up h).step (fun k hk hlt => hf.k k hlt (fun e => hij (by unfold tg at hk e; omega)))
/-- Whether a slot is used, and its generation. -/
def sk (sl : List S95) : List (Bool × Int) := sl.map fun x => (x.f1, x.f2)
theorem sk_length (sl : List S95) : (sk sl).length = sl.length := by simp [sk]
theorem sk_getD (sl : List S95) (i : Nat) : (sk sl).getD i (false, 0) = ((sl.getD i z95).f1, (sl.getD i z95).f2) := by
  unfold sk
  rw [List.getD_eq_getElem?_getD, List.getD_eq_getElem?_getD, List.getElem?_map]
  cases sl[i]? <;> rfl
theorem sk_set (sl : List S95) (i : Nat) (x : S95) : sk (sl.set i x) = (sk sl).set i (x.f1, x.f2) := by unfold sk; rw [List.map_set]
theorem sk_append (sl : List S95) (x : S95) : sk (sl ++ [x]) = sk sl ++ [(x.f1, x.f2)] := by simp [sk]
theorem lvb_sk (kd : Int) (sl : List S95) (hd : Int) : lvb kd sl hd = lvS kd (sk sl) hd := by
  unfold lvb lvS
  rw [sk_length, sk_getD]
theorem hfrom_sk (kd : Int) (sl : List S95) (i : Int) : hfrom kd sl i = hS kd (sk sl) i := by
  induction sl generalizing i with
  | nil => rfl
  | cons x t ih =>
    show _ = hS kd ((x.f1, x.f2) :: sk t) i
    simp only [hfrom, hS]
    rw [ih (i + 1)]
theorem gen_of {sl : List S95} {fr : List Int} (h : Good (sk sl) fr) : ∀ x ∈ sl, 0 ≤ x.f2 ∧ x.f2 < 1073741824 := fun x hx => h.gen (x.f1, x.f2) (by unfold sk; exact List.mem_map.2 ⟨x, hx, rfl⟩)
/-- The slots when a thing has been added. -/
def addL (sl : List S95) (fr : List Int) (a b : ByteArray) : List S95 := if fr = [] then sl ++ [⟨(a, b), true, 0⟩] else sl.set (addI (sk sl) fr) ⟨(a, b), true, addG (sk sl) fr⟩
theorem sk_addL (sl : List S95) (fr : List Int) (a b : ByteArray) : sk (addL sl fr a b) = addS (sk sl) fr := by
  unfold addL addS
  by_cases c : fr = []
  · rw [if_pos c, if_pos c, sk_append]
  · rw [if_neg c, if_neg c, sk_set]
/-- The slots when slot i's thing has been dropped. -/
def dropL (sl : List S95) (i : Nat) : List S95 := sl.set i ⟨(⟨#[]⟩, ⟨#[]⟩), false, nx (sl.getD i z95).f2⟩
theorem sk_dropL (sl : List S95) (i : Nat) : sk (dropL sl i) = dropS (sk sl) i := by
  unfold dropL dropS
  rw [sk_set, sk_getD]
section
variable {w : World} {base : Nat} {own : Nat → Nat} {j g : Nat} {kd : Int} {sl : List S95} {fr : List Int}
theorem add_own (h : TB w base (tg own j) g kd sl fr) (hG : Good (sk sl) fr) (hk : 1 ≤ kd ∧ kd ≤ 3) (a b : ByteArray) (hbase : base ≤ w.heap.size) :
    Calls Try.prog 31 #[.pointer (some ⟨g, 0, none⟩), .agg #[.string a, .string b]] w fun e w' => e = .returned (.int .u64 (pk kd (addI (sk sl) fr) (addG (sk sl) fr))) ∧ TB w' base (tg (up own w.heap.size j) j) g kd (addL sl fr a b) fr.dropLast ∧ Fr base (tg (up own w.heap.size j) j) w w' := by
  have h2 := TB_up (j := j) h
  have hlen := hG.len
  rw [sk_length] at hlen
  by_cases c : fr = []
  · subst c
    refine (add_new h2 a b hk hbase (up_fresh own _ j) (by omega)).mono ?_
    rintro e w' ⟨rfl, h3, h4⟩
    refine ⟨?_, ?_, h4⟩
    · rw [addI_nil, addG_nil, sk_length]
    · unfold addL; rw [if_pos rfl]; exact h3
  · obtain ⟨f, i, rfl, hi, hu⟩ := hG.last c
    rw [sk_length] at hi
    have hgn := hG.genAt i
    have ea : addI (sk sl) (f ++ [(i : Int)]) = i := addI_snoc _ _ _
    have eg : addG (sk sl) (f ++ [(i : Int)]) = (sl.getD i z95).f2 := by unfold addG; rw [if_neg c, ea, sk_getD]
    rw [sk_getD] at hgn
    refine (add_old h2 a b hk hi hbase hgn (by have := hG.flen; simp at this; omega)).mono ?_
    rintro e w' ⟨rfl, h3, h4⟩
    refine ⟨by rw [ea, eg], ?_, h4⟩
    unfold addL
    rw [if_neg c, ea, eg, List.dropLast_concat]
    exact h3
theorem drop_own (h : TB w base (tg own j) g kd sl fr) (hG : Good (sk sl) fr) (hd : Int) (h0 : 0 ≤ hd) (hu : hd < 18446744073709551616) (hbase : base ≤ w.heap.size) (hl : lvS kd (sk sl) hd = true) :
    Calls Try.prog 32 #[.pointer (some ⟨g, 0, none⟩), .int .u64 hd] w fun e w' => e = .returned (.bool true) ∧ TB w' base (tg (up own w.heap.size j) j) g kd (dropL sl (ixn hd)) (fr ++ [(ixn hd : Int)]) ∧ Fr base (tg (up own w.heap.size j) j) w w' := by
  refine (drop_calls (TB_up (j := j) h) hd h0 hu hbase (up_fresh own _ j) (gen_of hG) (by have := hG.flen; omega)).mono ?_
  rw [lvb_sk, hl]
  rintro e w' ⟨rfl, h3, h4⟩
  exact ⟨rfl, h3, h4⟩
theorem drop_not (h : TB w base (tg own j) g kd sl fr) (hd : Int) (h0 : 0 ≤ hd) (hu : hd < 18446744073709551616) (hl : lvS kd (sk sl) hd = false) :
    Calls Try.prog 32 #[.pointer (some ⟨g, 0, none⟩), .int .u64 hd] w fun e w' => e = .returned (.bool false) ∧ Below w.heap.size w w' := drop_no h hd h0 hu (by rw [lvb_sk]; exact hl)
theorem get_own (h : TB w base (tg own j) g kd sl fr) (hd : Int) (h0 : 0 ≤ hd) (hu : hd < 18446744073709551616) (hl : lvS kd (sk sl) hd = true) :
    Calls Try.prog 33 #[.pointer (some ⟨g, 0, none⟩), .int .u64 hd] w fun e w' => e = .returned (.tuple #[.agg #[.string (sl.getD (ixn hd) z95).f0.1, .string (sl.getD (ixn hd) z95).f0.2], .bool true]) ∧ Below w.heap.size w w' := get_yes h hd hu (lvb_yes (by rw [lvb_sk]; exact hl))
theorem handles_own (h : TB w base (tg own j) g kd sl fr) (hG : Good (sk sl) fr) (hk : -9223372036854775808 ≤ kd ∧ kd ≤ 9223372036854775807) :
    Calls Try.prog 34 #[.pointer (some ⟨g, 0, none⟩)] w fun e w' => ∃ v, e = .returned v ∧ (Kd.int .u64).R 27 w' w.heap.size (fun _ => True) v (hS kd (sk sl) 0) ∧ Below w.heap.size w w' := by
  rw [← hfrom_sk]
  exact handles_calls h hk (gen_of hG) (by have := hG.len; rw [sk_length] at this; omega)
end
end Go.Proofs.Ytgcbfbdhibbpdaa.Tb.Pr
