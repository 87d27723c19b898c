/- A table's methods Get, Set, Drop at every handle. -/
import Derived.Test.YtgcbfbdhibbpdaaMLive
import Derived.Test.YtgcbfbdhibbpdaaMDrop
import Derived.Test.YtgcbfbdhibbpdaaSk
set_option linter.unusedVariables false
set_option linter.unusedSimpArgs false
namespace Go.Proofs.Ytgcbfbdhibbpdaa.Tb
open Go.RowKit Go.Proofs.YtgcbfbdhibbpdaaW.PrintWords Go.Proofs.YtgcbfbdhibbpdaaW.PrintLast Go.Proofs.YtgcbfbdhibbpdaaW.PrintMore
attribute [local go_sem] max2_int min2_int
def lvb (kd : Int) (sl : List S76) (hd : Int) : Bool := decide (4611686018427387904 ≤ hd) && (decide (ixn hd < sl.length) && ((sl.getD (ixn hd) z76).f1 && (decide (hd / 4611686018427387904 = kd) && decide (hd / 4294967296 % 1073741824 = (sl.getD (ixn hd) z76).f2))))
theorem lvb_yes {kd : Int} {sl : List S76} {hd : Int} (h : lvb kd sl hd = true) : LiveAt kd sl hd (ixn hd) := by
  unfold lvb at h
  simp only [Bool.and_eq_true, decide_eq_true_eq] at h
  obtain ⟨h1, h2, h3, h4, h5⟩ := h
  exact ⟨h1, by unfold ixn; omega, h2, h3, h4, h5⟩
theorem TB.len {w : World} {base : Nat} {ok : Nat → Prop} {g : Nat} {kd : Int} {sl : List S76} {fr : List Int} (h : TB w base ok g kd sl fr) : sl.length ≤ 9223372036854775807 := by
  obtain ⟨_, vs, _, hb2, hR, _⟩ := h
  exact (Kd.R_reads hR).choose_spec.choose_spec.2.2.2.1
theorem live_no {w : World} {base : Nat} {ok : Nat → Prop} {g : Nat} {kd : Int} {sl : List S76} {fr : List Int} (h : TB w base ok g kd sl fr) (hd : Int) (h0 : 0 ≤ hd) (hu : hd < 18446744073709551616) (hn : lvb kd sl hd = false) :
    Calls Try.prog 36 #[.pointer (some ⟨g, 0, none⟩), .int .u64 hd] w fun e w' => e = .returned (.pointer none) ∧ Below w.heap.size w w' := by
  have hlen := h.len
  obtain ⟨_, vs, vf, hb, hR, _⟩ := h
  by_cases c0 : hd < 4611686018427387904
  · exact live_none_a hd h0 c0 hb
  · have hix : hd % 4294967296 = (ixn hd : Nat) := by unfold ixn; omega
    by_cases c1 : ixn hd < sl.length
    · obtain ⟨sb, c, rfl, hbb, ho, hc, e0, e1, e2, hf⟩ := k76_at hR c1
      by_cases c2 : (sl.getD (ixn hd) z76).f1 = true
      · rw [c2] at e1
        refine live_none_d hd (by omega) hu hb hlen (ixn hd) hix c1 _ e1 e2 ?_
        intro hc3
        unfold lvb at hn
        rw [c2, decide_eq_true (by omega : 4611686018427387904 ≤ hd), decide_eq_true c1, decide_eq_true hc3.1, decide_eq_true hc3.2] at hn
        exact absurd hn (by decide)
      · rw [Bool.not_eq_true] at c2
        rw [c2] at e1
        exact live_none_c hd (by omega) hu hb hlen (ixn hd) hix c1 e1
    · obtain ⟨A, c, rfl⟩ := Kd.R_slice hR
      exact live_none_b hd (by omega) hu hb hlen (by omega)
/-! ### Get -/
set_option maxHeartbeats 1000000 in
theorem get_no {w : World} {base : Nat} {ok : Nat → Prop} {g : Nat} {kd : Int} {sl : List S76} {fr : List Int} (h : TB w base ok g kd sl fr) (hd : Int) (h0 : 0 ≤ hd) (hu : hd < 18446744073709551616) (hn : lvb kd sl hd = false) :
    Calls Try.prog 21 #[.pointer (some ⟨g, 0, none⟩), .int .u64 hd] w fun e w' => e = .returned (.tuple #[.int .i64 0, .bool false]) ∧ Below w.heap.size w w' := by
  go_enter Try.func21, Try.ntmps21
  go_wp2_with fail
  refine (live_no h hd h0 hu hn).mono ?_
  rintro e w1 ⟨rfl, hb1⟩
  go_wp2
  exact bodyPost_ret (v := .tuple #[.int .i64 0, .bool false]) (by simp [results, Try.results21, go_sem]) rfl ⟨rfl, hb1⟩
set_option maxHeartbeats 1000000 in
theorem get_nil (hd : Int) (h0 : 0 ≤ hd) (hu : hd < 18446744073709551616) (w : World) :
    Calls Try.prog 21 #[.pointer none, .int .u64 hd] w fun e w' => e = .returned (.tuple #[.int .i64 0, .bool false]) ∧ Below w.heap.size w w' := by
  go_enter Try.func21, Try.ntmps21
  go_wp2_with fail
  refine (live_none_nil hd h0 hu w).mono ?_
  rintro e w1 ⟨rfl, hb1⟩
  go_wp2
  exact bodyPost_ret (v := .tuple #[.int .i64 0, .bool false]) (by simp [results, Try.results21, go_sem]) rfl ⟨rfl, hb1⟩
theorem get_calls {w : World} {base : Nat} {ok : Nat → Prop} {g : Nat} {kd : Int} {sl : List S76} {fr : List Int} (h : TB w base ok g kd sl fr) (hd : Int) (h0 : 0 ≤ hd) (hu : hd < 18446744073709551616) :
    Calls Try.prog 21 #[.pointer (some ⟨g, 0, none⟩), .int .u64 hd] w fun e w' => e = .returned (.tuple #[.int .i64 (if lvb kd sl hd then (sl.getD (ixn hd) z76).f0 else 0), .bool (lvb kd sl hd)]) ∧ Below w.heap.size w w' := by
  cases c : lvb kd sl hd with
  | false => exact get_no h hd h0 hu c
  | true => exact get_yes h hd hu (lvb_yes c)
/-! ### Set -/
set_option maxHeartbeats 1000000 in
theorem set_no {w : World} {base : Nat} {ok : Nat → Prop} {g : Nat} {kd : Int} {sl : List S76} {fr : List Int} (h : TB w base ok g kd sl fr) (hd v : Int) (h0 : 0 ≤ hd) (hu : hd < 18446744073709551616) (hn : lvb kd sl hd = false) :
    Calls Try.prog 22 #[.pointer (some ⟨g, 0, none⟩), .int .u64 hd, .int .i64 v] w fun e w' => e = .returned (.bool false) ∧ Below w.heap.size w w' := by
  go_enter Try.func22, Try.ntmps22
  go_wp2_with fail
  refine (live_no h hd h0 hu hn).mono ?_
  rintro e w1 ⟨rfl, hb1⟩
  go_wp2
  go_ret
  exact ⟨rfl, hb1⟩
set_option maxHeartbeats 1000000 in
theorem set_nil (hd v : Int) (h0 : 0 ≤ hd) (hu : hd < 18446744073709551616) (w : World) :
    Calls Try.prog 22 #[.pointer none, .int .u64 hd, .int .i64 v] w fun e w' => e = .returned (.bool false) ∧ Below w.heap.size w w' := by
  go_enter Try.func22, Try.ntmps22
  go_wp2_with fail
  refine (live_none_nil hd h0 hu w).mono ?_
  rintro e w1 ⟨rfl, hb1⟩
  go_wp2
  go_ret
  exact ⟨rfl, hb1⟩
/-! ### Drop -/
set_option maxHeartbeats 1000000 in
theorem drop_no {w : World} {base : Nat} {ok : Nat → Prop} {g : Nat} {kd : Int} {sl : List S76} {fr : List Int} (h : TB w base ok g kd sl fr) (hd : Int) (h0 : 0 ≤ hd) (hu : hd < 18446744073709551616) (hn : lvb kd sl hd = false) :
    Calls Try.prog 11 #[.pointer (some ⟨g, 0, none⟩), .int .u64 hd] w fun e w' => e = .returned (.bool false) ∧ Below w.heap.size w w' := by
  go_enter Try.func11, Try.ntmps11
  go_wp2_with fail
  refine (live_no h hd h0 hu hn).mono ?_
  rintro e w1 ⟨rfl, hb1⟩
  go_wp2
  go_ret
  exact ⟨rfl, hb1⟩
set_option maxHeartbeats 1000000 in
theorem drop_nil (hd : Int) (h0 : 0 ≤ hd) (hu : hd < 18446744073709551616) (w : World) :
    Calls Try.prog 11 #[.pointer none, .int .u64 hd] w fun e w' => e = .returned (.bool false) ∧ Below w.heap.size w w' := by
  go_enter Try.func11, Try.ntmps11
  go_wp2_with fail
  refine (live_none_nil hd h0 hu w).mono ?_
  rintro e w1 ⟨rfl, hb1⟩
  go_wp2
  go_ret
  exact ⟨rfl, hb1⟩
theorem set_calls {w : World} {base : Nat} {ok : Nat → Prop} {g : Nat} {kd : Int} {sl : List S76} {fr : List Int} (h : TB w base ok g kd sl fr) (hd v : Int) (h0 : 0 ≤ hd) (hu : hd < 18446744073709551616) (hbase : base ≤ w.heap.size) :
    Calls Try.prog 22 #[.pointer (some ⟨g, 0, none⟩), .int .u64 hd, .int .i64 v] w fun e w' => e = .returned (.bool (lvb kd sl hd)) ∧ TB w' base ok g kd (if lvb kd sl hd then sl.set (ixn hd) ⟨v, (sl.getD (ixn hd) z76).f1, (sl.getD (ixn hd) z76).f2⟩ else sl) fr ∧ Fr base ok w w' := by
  cases c : lvb kd sl hd with
  | false =>
    refine (set_no h hd v h0 hu c).mono ?_
    rintro e w1 ⟨rfl, hb1⟩
    exact ⟨rfl, h.below hb1, Fr.of_below hb1 hbase⟩
  | true => exact set_yes h hd v hu (lvb_yes c) hbase
theorem drop_calls {w : World} {base : Nat} {ok : Nat → Prop} {g : Nat} {kd : Int} {sl : List S76} {fr : List Int} (h : TB w base ok g kd sl fr) (hd : Int) (h0 : 0 ≤ hd) (hu : hd < 18446744073709551616) (hbase : base ≤ w.heap.size) (hfresh : ∀ k, w.heap.size ≤ k → ok k) (hgn : ∀ x ∈ sl, 0 ≤ x.f2 ∧ x.f2 < 1073741824) (hfl : fr.length ≤ 1000) :
    Calls Try.prog 11 #[.pointer (some ⟨g, 0, none⟩), .int .u64 hd] w fun e w' => e = .returned (.bool (lvb kd sl hd)) ∧ TB w' base ok g kd (if lvb kd sl hd then sl.set (ixn hd) ⟨0, false, nx (sl.getD (ixn hd) z76).f2⟩ else sl) (if lvb kd sl hd then fr ++ [(ixn hd : Int)] else fr) ∧ Fr base ok w w' := by
  cases c : lvb kd sl hd with
  | false =>
    refine (drop_no h hd h0 hu c).mono ?_
    rintro e w1 ⟨rfl, hb1⟩
    exact ⟨rfl, h.below hb1, Fr.of_below hb1 hbase⟩
  | true =>
    have hl := lvb_yes c
    refine drop_yes h hd hu hl hbase hfresh ?_ hfl
    have hlt := hl.lt
    rw [List.getD_eq_getElem?_getD, List.getElem?_eq_getElem hlt]
    exact hgn _ (List.getElem_mem hlt)
end Go.Proofs.Ytgcbfbdhibbpdaa.Tb
