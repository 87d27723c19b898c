import Derived.Test.YtgcbfbdhibbpdaaMTab
set_option linter.unusedVariables false
set_option linter.unusedSimpArgs false
namespace Go.Proofs.Ytgcbfbdhibbpdaa.Tb
open Go.RowKit Go.Proofs.YtgcbfbdhibbpdaaW.PrintWords Go.Proofs.YtgcbfbdhibbpdaaW.PrintLast Go.Proofs.YtgcbfbdhibbpdaaW.PrintMore
attribute [local go_sem] max2_int min2_int
theorem info76 : (Try.prog.info? 76).map (fun i => (i.zero, i.size, i.bytes)) = some (some (.agg #[(.int .i64 0), (.bool false), (.int .i64 0)]), 3, 24) := by kernel_rfl
theorem info3 : (Try.prog.info? 3).map (fun i => (i.zero, i.size, i.bytes)) = some (some (.int .i64 0), 1, 8) := by kernel_rfl
/-! ### New, Len -/
set_option maxHeartbeats 1000000 in
theorem new_calls (kd : Int) (w : World) (base : Nat) (ok : Nat → Prop) (hbase : base ≤ w.heap.size) (hfresh : ∀ k, w.heap.size ≤ k → ok k) :
    Calls Try.prog 9 #[.int .i64 kd] w fun e w' => e = .returned (.pointer (some ⟨w.heap.size, 0, none⟩)) ∧ TB w' base ok w.heap.size kd [] [] ∧ Fr base ok w w' := by
  go_enter Try.func9, Try.ntmps9
  go_wp2_with fail
  go_ret
  refine ⟨rfl, ⟨⟨hfresh _ (Nat.le_refl _), hbase⟩, .slice none 0 0, .slice none 0 0, by unfold World.alloc; exact Array.getElem?_push_size, Kd.R_nil _ _ _ _ _, Kd.R_nil _ _ _ _ _⟩, Fr.of_below ((Below.refl _ _).alloc (Nat.le_refl _) _) hbase⟩
set_option maxHeartbeats 1000000 in
theorem len_calls {w : World} {base : Nat} {ok : Nat → Prop} {g : Nat} {kd : Int} {sl : List S76} {fr : List Int} (h : TB w base ok g kd sl fr) :
    Calls Try.prog 13 #[.pointer (some ⟨g, 0, none⟩)] w fun e w' => e = .returned (.int .i64 ((sl.length : Int) - (fr.length : Int))) ∧ Below w.heap.size w w' := by
  obtain ⟨_, vs, vf, hb, hR, hF⟩ := h
  have h1 : sl.length ≤ 9223372036854775807 := (Kd.R_reads hR).choose_spec.choose_spec.2.2.2.1
  have h2 : fr.length ≤ 9223372036854775807 := (Kd.R_reads hF).choose_spec.choose_spec.2.2.2.1
  obtain ⟨A, c, rfl⟩ := Kd.R_slice hR
  obtain ⟨A2, c2, rfl⟩ := Kd.R_slice hF
  have g1 := blk3_1 hb
  have g2 := blk3_2 hb
  clear hb hR hF
  go_enter Try.func13, Try.ntmps13
  go_wp2_with fail
  go_quiet (fail)
  go_wp2
  go_ret
  exact ⟨rfl, pw_below_drewN (Below.refl _ _) _⟩
set_option maxHeartbeats 1000000 in
theorem len_nil (w : World) :
    Calls Try.prog 13 #[.pointer none] w fun e w' => e = .returned (.int .i64 0) ∧ Below w.heap.size w w' := by
  go_enter Try.func13, Try.ntmps13
  go_wp2_with fail
  go_ret
  exact ⟨rfl, Below.refl _ _⟩
/-! ### handle -/
set_option maxHeartbeats 2000000 in
theorem handle_calls {w : World} {base : Nat} {ok : Nat → Prop} {g : Nat} {kd : Int} {sl : List S76} {fr : List Int} (h : TB w base ok g kd sl fr) {i : Nat} (hi : i < sl.length) (hk : -9223372036854775808 ≤ kd ∧ kd ≤ 9223372036854775807) (hg : -9223372036854775808 ≤ (sl.getD i z76).f2 ∧ (sl.getD i z76).f2 ≤ 9223372036854775807) :
    Calls Try.prog 35 #[.pointer (some ⟨g, 0, none⟩), .int .i64 i] w fun e w' => e = .returned (.int .u64 (pk kd i (sl.getD i z76).f2)) ∧ ∃ n, w' = w.drewN n := by
  obtain ⟨_, vs, vf, hb, hR, hF⟩ := h
  have h1 : sl.length ≤ 9223372036854775807 := (Kd.R_reads hR).choose_spec.choose_spec.2.2.2.1
  obtain ⟨sb, c, rfl, hbb, ho, hc, e0, e1, e2, hf⟩ := k76_at hR hi
  have g0 := blk3_0 hb
  have g1 := blk3_1 hb
  have hin1 : 0 ≤ (i : Int) ∧ (i : Int) < (sl.length : Int) := by omega
  have hin2 : (i : Int) < (sl.length : Int) := by omega
  have hpk := pack_is kd i (sl.getD i z76).f2 hk (by omega) hg
  obtain ⟨gn, hgn⟩ : ∃ gn, gn = (sl.getD i z76).f2 := ⟨_, rfl⟩
  rw [← hgn] at e2 hpk ⊢
  clear hb hR hF e0 e1 hf hc hgn hg hk
  go_enter Try.func35, Try.ntmps35
  go_wp2_with fail
  go_quiet ((go_at_call 20; exact Calls.quiet_of ((handle_Pack.calls _ _ _ _ _ hpk).mono (fun e w' h => ⟨h.1, h.2.out⟩))))
  go_wp2
  go_ret
  exact ⟨rfl, _, rfl⟩
end Go.Proofs.Ytgcbfbdhibbpdaa.Tb
