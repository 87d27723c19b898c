/- runs.Has: whether a run has one of some pages: the closure, slices.IndexFunc, ContainsFunc and Has, walked. -/
import Derived.Test.YtdkedgdieoojgaaMTake
import Derived.Deep.RegionHeld3
import Derived.BigQuiet
set_option linter.unusedVariables false
set_option linter.unusedSimpArgs false
namespace Go.Proofs.Ytdkedgdieoojgaa.Rn
open Go.RowKit Go.Proofs.YtdkedgdieoojgaaW.PrintWords Go.Proofs.YtdkedgdieoojgaaW.PrintLast Go.Proofs.YtdkedgdieoojgaaW.PrintMore
/-- Has run x one of n pages from page p on? -/
def hasB (x : S51) (p n : Int) : Bool := decide (0 < n) && ((decide (p < 0) && decide (x.f0 < p + n) || decide (0 ≤ p) && decide (x.f0 - p < n)) && decide (p < x.f0 + x.f1))
theorem hasB_no {x : S51} {p n : Int} (h : n ≤ 0) : hasB x p n = false := by simp [hasB]; omega
theorem below_drewN_alloc {w : World} (o : Obj) (n : Nat) : Below w.heap.size w ((w.alloc o).drewN n) := pw_below_drewN (below_alloc (Below.refl _ _) o) n
set_option maxHeartbeats 1000000 in
theorem has1_no (a b p n : Int) (b1 b2 : Nat) (w : World) (hn : n ≤ 0) (h1 : w.cell? ⟨b1, 0, none⟩ = some (.int .i64 p)) (h2 : w.cell? ⟨b2, 0, none⟩ = some (.int .i64 n)) :
    Calls Try.prog 41 #[.agg #[.int .i64 a, .int .i64 b], .pointer (some ⟨b1, 0, none⟩), .pointer (some ⟨b2, 0, none⟩)] w fun e w' => e = .returned (.bool false) ∧ Below w.heap.size w w' := by
  have hb1 := World.block_lt_of_cell? w _ h1
  have hb2 := World.block_lt_of_cell? w _ h2
  have k1 : (w.alloc (.cells #[.int .i64 a, .int .i64 b] 51)).cell? ⟨b1, 0, none⟩ = some (.int .i64 p) := by rw [World.cell?_alloc_past _ _ _ (by simpa using hb1)]; exact h1
  have k2 : (w.alloc (.cells #[.int .i64 a, .int .i64 b] 51)).cell? ⟨b2, 0, none⟩ = some (.int .i64 n) := by rw [World.cell?_alloc_past _ _ _ (by simpa using hb2)]; exact h2
  have t0 : decide (0 < n) = false := decide_eq_false (by omega)
  by_cases hp : p < 0
  · have hp1 : ¬ 0 ≤ p := by omega
    go_enter Try.func41, Try.ntmps41
    go_wp2
    all_goals go_quiet (fail)
    all_goals go_wp2
    all_goals go_ret
    all_goals exact ⟨rfl, below_drewN_alloc _ _⟩
  · have hp1 : 0 ≤ p := by omega
    go_enter Try.func41, Try.ntmps41
    go_wp2
    all_goals go_quiet (fail)
    all_goals go_wp2
    all_goals go_ret
    all_goals exact ⟨rfl, below_drewN_alloc _ _⟩
set_option maxHeartbeats 1000000 in
theorem has1_far (a b p n : Int) (b1 b2 : Nat) (w : World) (hn : 0 < n) (ha : 0 ≤ a ∧ a ≤ 1099511627776) (hb : 0 ≤ b ∧ b ≤ 1099511627776) (hp64 : -9223372036854775808 ≤ p ∧ p ≤ 9223372036854775807) (hn64 : n ≤ 9223372036854775807)
    (hr : ¬ ((p < 0 ∧ a < p + n) ∨ (0 ≤ p ∧ a - p < n))) (h1 : w.cell? ⟨b1, 0, none⟩ = some (.int .i64 p)) (h2 : w.cell? ⟨b2, 0, none⟩ = some (.int .i64 n)) :
    Calls Try.prog 41 #[.agg #[.int .i64 a, .int .i64 b], .pointer (some ⟨b1, 0, none⟩), .pointer (some ⟨b2, 0, none⟩)] w fun e w' => e = .returned (.bool false) ∧ Below w.heap.size w w' := by
  have hb1 := World.block_lt_of_cell? w _ h1
  have hb2 := World.block_lt_of_cell? w _ h2
  have k1 : (w.alloc (.cells #[.int .i64 a, .int .i64 b] 51)).cell? ⟨b1, 0, none⟩ = some (.int .i64 p) := by rw [World.cell?_alloc_past _ _ _ (by simpa using hb1)]; exact h1
  have k2 : (w.alloc (.cells #[.int .i64 a, .int .i64 b] 51)).cell? ⟨b2, 0, none⟩ = some (.int .i64 n) := by rw [World.cell?_alloc_past _ _ _ (by simpa using hb2)]; exact h2
  have t0 : decide (0 < n) = true := decide_eq_true (by omega)
  by_cases hp : p < 0
  · have hp1 : ¬ 0 ≤ p := by omega
    have hr1 : ¬ a < p + n := by omega
    clear hr
    go_enter Try.func41, Try.ntmps41
    go_wp2
    all_goals go_quiet (fail)
    all_goals go_wp2
    all_goals go_ret
    all_goals exact ⟨rfl, below_drewN_alloc _ _⟩
  · have hp1 : 0 ≤ p := by omega
    have hr1 : ¬ a - p < n := by omega
    clear hr
    go_enter Try.func41, Try.ntmps41
    go_wp2
    all_goals go_quiet (fail)
    all_goals go_wp2
    all_goals go_ret
    all_goals exact ⟨rfl, below_drewN_alloc _ _⟩
set_option maxHeartbeats 1000000 in
theorem has1_near (a b p n : Int) (b1 b2 : Nat) (w : World) (hn : 0 < n) (ha : 0 ≤ a ∧ a ≤ 1099511627776) (hb : 0 ≤ b ∧ b ≤ 1099511627776) (hp64 : -9223372036854775808 ≤ p ∧ p ≤ 9223372036854775807) (hn64 : n ≤ 9223372036854775807)
    (hr : (p < 0 ∧ a < p + n) ∨ (0 ≤ p ∧ a - p < n)) (h1 : w.cell? ⟨b1, 0, none⟩ = some (.int .i64 p)) (h2 : w.cell? ⟨b2, 0, none⟩ = some (.int .i64 n)) :
    Calls Try.prog 41 #[.agg #[.int .i64 a, .int .i64 b], .pointer (some ⟨b1, 0, none⟩), .pointer (some ⟨b2, 0, none⟩)] w fun e w' => e = .returned (.bool (decide (p < a + b))) ∧ Below w.heap.size w w' := by
  have hb1 := World.block_lt_of_cell? w _ h1
  have hb2 := World.block_lt_of_cell? w _ h2
  obtain ⟨W, hW⟩ : ∃ W, W = w.alloc (.cells #[.int .i64 a, .int .i64 b] 51) := ⟨_, rfl⟩
  have k1 : (w.alloc (.cells #[.int .i64 a, .int .i64 b] 51)).cell? ⟨b1, 0, none⟩ = some (.int .i64 p) := by rw [World.cell?_alloc_past _ _ _ (by simpa using hb1)]; exact h1
  have k2 : (w.alloc (.cells #[.int .i64 a, .int .i64 b] 51)).cell? ⟨b2, 0, none⟩ = some (.int .i64 n) := by rw [World.cell?_alloc_past _ _ _ (by simpa using hb2)]; exact h2
  have t0 : decide (0 < n) = true := decide_eq_true (by omega)
  have x1 : W.cell? ⟨w.heap.size, 0, none⟩ = some (.int .i64 a) := by rw [hW]; simp
  have x2 : W.cell? ⟨w.heap.size, 1, none⟩ = some (.int .i64 b) := by rw [hW]; simp
  have y1 : W.cell? ⟨b1, 0, none⟩ = some (.int .i64 p) := by rw [hW]; exact k1
  have y2 : W.cell? ⟨b2, 0, none⟩ = some (.int .i64 n) := by rw [hW]; exact k2
  have HW := Aside0.mk hW
  have HB := Aside0.mk (show Below w.heap.size w W by rw [hW]; exact below_alloc (Below.refl _ _) _)
  clear hW
  by_cases hp : p < 0
  · have hp1 : ¬ 0 ≤ p := by omega
    have hr1 : a < p + n := by omega
    clear hr
    go_enter Try.func41, Try.ntmps41
    go_wp2
    all_goals rw [← HW.out]
    all_goals go_region_held3 (fun w' => w'.cell? ⟨w.heap.size, 0, none⟩ = some (.int .i64 a) ∧ w'.cell? ⟨w.heap.size, 1, none⟩ = some (.int .i64 b) ∧
      w'.cell? ⟨b1, 0, none⟩ = some (.int .i64 p) ∧ w'.cell? ⟨b2, 0, none⟩ = some (.int .i64 n))
      (first | go_keep | (go_split_ands; refine ⟨?_, ?_, ?_, ?_⟩ <;> (refine pw_cell_below hb5 ?_; assumption)))
      ((go_at_call 33; refine (end_calls _ _ _ (by omega) (by omega)).mono ?_; rintro e w5 ⟨rfl, hb5⟩))
    all_goals go_wp2
    all_goals go_ret
    all_goals exact ⟨rfl, HB.out.trans (below_of hb5 HB.out)⟩
  · have hp1 : 0 ≤ p := by omega
    have hr1 : a - p < n := by omega
    clear hr
    go_enter Try.func41, Try.ntmps41
    go_wp2
    all_goals rw [← HW.out]
    all_goals go_region_held3 (fun w' => w'.cell? ⟨w.heap.size, 0, none⟩ = some (.int .i64 a) ∧ w'.cell? ⟨w.heap.size, 1, none⟩ = some (.int .i64 b) ∧
      w'.cell? ⟨b1, 0, none⟩ = some (.int .i64 p) ∧ w'.cell? ⟨b2, 0, none⟩ = some (.int .i64 n))
      (first | go_keep | (go_split_ands; refine ⟨?_, ?_, ?_, ?_⟩ <;> (refine pw_cell_below hb5 ?_; assumption)))
      ((go_at_call 33; refine (end_calls _ _ _ (by omega) (by omega)).mono ?_; rintro e w5 ⟨rfl, hb5⟩))
    all_goals go_wp2
    all_goals go_ret
    all_goals exact ⟨rfl, HB.out.trans (below_of hb5 HB.out)⟩
theorem has1_calls (x : S51) (p n : Int) (b1 b2 : Nat) (w : World) (ha : 0 ≤ x.f0 ∧ x.f0 ≤ 1099511627776) (hb : 0 ≤ x.f1 ∧ x.f1 ≤ 1099511627776) (hp64 : -9223372036854775808 ≤ p ∧ p ≤ 9223372036854775807) (hn64 : n ≤ 9223372036854775807)
    (h1 : w.cell? ⟨b1, 0, none⟩ = some (.int .i64 p)) (h2 : w.cell? ⟨b2, 0, none⟩ = some (.int .i64 n)) :
    Calls Try.prog 41 #[.agg #[.int .i64 x.f0, .int .i64 x.f1], .pointer (some ⟨b1, 0, none⟩), .pointer (some ⟨b2, 0, none⟩)] w fun e w' => e = .returned (.bool (hasB x p n)) ∧ Below w.heap.size w w' := by
  by_cases hn : n ≤ 0
  · rw [hasB_no hn]; exact has1_no _ _ p n b1 b2 w hn h1 h2
  · by_cases hr : (p < 0 ∧ x.f0 < p + n) ∨ (0 ≤ p ∧ x.f0 - p < n)
    · have e : hasB x p n = decide (p < x.f0 + x.f1) := by
        unfold hasB
        have e1 : decide (0 < n) = true := decide_eq_true (by omega)
        have e2 : (decide (p < 0) && decide (x.f0 < p + n) || decide (0 ≤ p) && decide (x.f0 - p < n)) = true := by simpa using hr
        rw [e1, e2]; rfl
      rw [e]; exact has1_near _ _ p n b1 b2 w (by omega) ha hb hp64 hn64 hr h1 h2
    · have e : hasB x p n = false := by
        unfold hasB
        have e2 : (decide (p < 0) && decide (x.f0 < p + n) || decide (0 ≤ p) && decide (x.f0 - p < n)) = false := by
          rw [Bool.eq_false_iff]; simpa using hr
        rw [e2]; simp
      rw [e]; exact has1_far _ _ p n b1 b2 w (by omega) ha hb hp64 hn64 hr h1 h2
set_option maxHeartbeats 1000000 in
theorem index_calls (A : Option Addr) (c : Nat) (l : List S51) (p n : Int) (b1 b2 : Nat) (w : World) (hC : Kd.C k51 w A l.length l) (hf : fitsR l = true) (hp64 : -9223372036854775808 ≤ p ∧ p ≤ 9223372036854775807) (hn64 : n ≤ 9223372036854775807)
    (h1 : w.cell? ⟨b1, 0, none⟩ = some (.int .i64 p)) (h2 : w.cell? ⟨b2, 0, none⟩ = some (.int .i64 n)) :
    Calls Try.prog 42 #[.slice A l.length c, .func (.func 41) #[] #[.pointer (some ⟨b1, 0, none⟩), .pointer (some ⟨b2, 0, none⟩)]] w fun e w' =>
      ∃ r : Int, e = .returned (.int .i64 r) ∧ decide (0 ≤ r) = l.any (fun x => hasB x p n) ∧ Below w.heap.size w w' := by
  have hl := fitsR_len hf
  have HC := Aside0.mk hC
  have HF := Aside0.mk hf
  have H1 := Aside0.mk h1
  have H2 := Aside0.mk h2
  clear hC hf h1 h2
  go_enter Try.func42, Try.ntmps42
  go_wp2
  go_loopw [8] (fun i wr => ∃ k : Nat, k ≤ l.length ∧ i = .int .i64 k ∧ Aside0 ((l.take k).any (fun x => hasB x p n) = false) ∧ Aside0 (Below w.heap.size w wr)) (fun i _ => l.length - (intOf i).toNat)
  case atStart => exact ⟨0, Nat.zero_le _, rfl, ⟨by simp⟩, ⟨Below.refl _ _⟩⟩
  case round =>
    obtain ⟨k, hk, rfl, hno, hB⟩ := hrel
    by_cases hlt : k < l.length
    · obtain ⟨ad, hA, e1, e2⟩ := at_T51 (Kd.C_below HC.out hB.out) (k : Int) (by omega) (by omega)
      have hx : rd_T51 l k = l[k] := by unfold rd_T51; simp [List.getD_eq_getElem?_getD, hlt]
      rw [hx] at e1 e2
      simp only [Int.toNat_natCast] at e1 e2
      subst hA
      have hm := fitsR_mem HF.out (List.getElem_mem hlt)
      have HX := Aside0.mk hx
      obtain ⟨x, hxx⟩ : ∃ x, x = l[k] := ⟨_, rfl⟩
      rw [← hxx] at e1 e2 hm
      have HXX := Aside0.mk hxx
      clear hx hxx
      have hin : 0 ≤ (k : Int) ∧ (k : Int) < (l.length : Int) := by omega
      go_wp2_with fail
      refine (has1_calls x p n b1 b2 _ ⟨hm.1, hm.2.1⟩ ⟨hm.2.2.1, hm.2.2.2⟩ hp64 hn64 (pw_cell_below hB.out H1.out) (pw_cell_below hB.out H2.out)).mono ?_
      rintro e w2 ⟨rfl, hb⟩
      have HB2 := Aside0.mk (below_step hB.out hb)
      clear hb
      cases hv : hasB x p n with
      | true =>
        have HV := Aside0.mk hv
        clear hv
        go_wp2
        go_ret
        refine ⟨_, rfl, ?_, HB2.out⟩
        have : l.any (fun x => hasB x p n) = true := List.any_eq_true.2 ⟨x, by rw [HXX.out]; exact List.getElem_mem hlt, HV.out⟩
        rw [this]; simp
      | false =>
        have HV := Aside0.mk hv
        clear hv
        go_wp2
        go_roundw
        case rel => exact ⟨k + 1, by omega, by go_num, ⟨by rw [List.take_add_one, List.getElem?_eq_getElem hlt]; simp only [List.any_append, Option.toList_some, List.any_cons, List.any_nil, Bool.or_false, hno.out, Bool.false_or, ← HXX.out]; exact HV.out⟩, HB2⟩
        case measure => simp [intOf]; omega
    · have hge : ¬ (k : Int) < (l.length : Int) := by omega
      go_wp2
      go_ret
      have e : k = l.length := by omega
      subst e
      refine ⟨_, rfl, ?_, hB.out⟩
      have := hno.out
      rw [List.take_length] at this
      rw [this]; rfl
set_option maxHeartbeats 1000000 in
theorem contains_calls (A : Option Addr) (c : Nat) (l : List S51) (p n : Int) (b1 b2 : Nat) (w : World) (hC : Kd.C k51 w A l.length l) (hf : fitsR l = true) (hp64 : -9223372036854775808 ≤ p ∧ p ≤ 9223372036854775807) (hn64 : n ≤ 9223372036854775807)
    (h1 : w.cell? ⟨b1, 0, none⟩ = some (.int .i64 p)) (h2 : w.cell? ⟨b2, 0, none⟩ = some (.int .i64 n)) :
    Calls Try.prog 40 #[.slice A l.length c, .func (.func 41) #[] #[.pointer (some ⟨b1, 0, none⟩), .pointer (some ⟨b2, 0, none⟩)]] w fun e w' =>
      e = .returned (.bool (l.any (fun x => hasB x p n))) ∧ Below w.heap.size w w' := by
  have hl := fitsR_len hf
  have HC := Aside0.mk hC
  have HF := Aside0.mk hf
  have H1 := Aside0.mk h1
  have H2 := Aside0.mk h2
  clear hC hf h1 h2
  go_enter Try.func40, Try.ntmps40
  go_wp2_with fail
  refine (index_calls _ _ _ p n b1 b2 _ HC.out HF.out hp64 hn64 H1.out H2.out).mono ?_
  rintro e w1 ⟨r, rfl, hr, hb⟩
  have HR := Aside0.mk hr
  have HB := Aside0.mk hb
  clear hr hb
  go_wp2
  go_ret
  exact ⟨by rw [← HR.out]; simp, HB.out⟩
set_option maxHeartbeats 1000000 in
theorem has_calls (A : Option Addr) (c : Nat) (l : List S51) (p n : Int) (w : World) (hC : Kd.C k51 w A l.length l) (hf : fitsR l = true) (hp64 : -9223372036854775808 ≤ p ∧ p ≤ 9223372036854775807) (hn64 : n ≤ 9223372036854775807) :
    Calls Try.prog 34 #[.slice A l.length c, .int .i64 p, .int .i64 n] w fun e w' =>
      e = .returned (.bool (l.any (fun x => hasB x p n))) ∧ Below w.heap.size w w' := by
  have HC := Aside0.mk hC
  have HF := Aside0.mk hf
  clear hC hf
  go_enter Try.func34, Try.ntmps34
  go_wp2_with fail
  have hB0 : Below w.heap.size w ((w.alloc (.cells #[.int .i64 p] 3)).alloc (.cells #[.int .i64 n] 3)) := below_alloc (below_alloc (Below.refl _ _) _) _
  refine (contains_calls _ _ _ p n w.heap.size (w.heap.size + 1) _ (Kd.C_below HC.out hB0) HF.out hp64 hn64 (by simp [World.cell?_alloc_past]) (by simp)).mono ?_
  rintro e w1 ⟨rfl, hb⟩
  have HB := Aside0.mk (below_step hB0 hb)
  clear hb hB0
  go_wp2
  go_ret
  exact ⟨rfl, HB.out⟩
def runs_Has.f (l0 : List S51) (a1 a2 : Int) : Option Bool :=
  if fitsR l0 = true ∧ (-9223372036854775808 ≤ a1 ∧ a1 ≤ 9223372036854775807) ∧ a2 ≤ 9223372036854775807 then some (l0.any (fun x => hasB x a1 a2)) else none
theorem runs_Has.calls (A0 : Option Addr) (c0 : Nat) (l0 : List (S51)) (a1 : Int) (a2 : Int) (r : Bool) (w : World) (hr0 : Kd.C k51 w A0 l0.length l0) (hc0 : l0.length ≤ c0) (h : runs_Has.f l0 a1 a2 = some r) :
    Calls Try.prog 34 #[.slice A0 l0.length c0, .int .i64 a1, .int .i64 a2] w fun e w' => e = .returned (.bool r) ∧ Below w.heap.size w w' := by
  unfold runs_Has.f at h
  by_cases c : fitsR l0 = true ∧ (-9223372036854775808 ≤ a1 ∧ a1 ≤ 9223372036854775807) ∧ a2 ≤ 9223372036854775807
  · rw [if_pos c] at h
    obtain rfl := Option.some.inj h
    exact has_calls A0 c0 l0 a1 a2 w hr0 c.1 c.2.1 c.2.2
  · rw [if_neg c] at h; exact absurd h (by simp)
end Go.Proofs.Ytdkedgdieoojgaa.Rn
