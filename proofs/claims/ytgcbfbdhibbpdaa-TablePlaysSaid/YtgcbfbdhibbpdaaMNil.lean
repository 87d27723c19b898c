/- A table's method Add at a nil pointer and at another kind; Handles. -/
import Derived.Test.YtgcbfbdhibbpdaaMAddNew
import Derived.Test.YtgcbfbdhibbpdaaMMeth
set_option linter.unusedVariables false
set_option linter.unusedSimpArgs false
namespace Go.Proofs.Ytgcbfbdhibbpdaa.Tb
open Go.RowKit Go.Proofs.YtgcbfbdhibbpdaaW.PrintWords Go.Proofs.YtgcbfbdhibbpdaaW.PrintLast Go.Proofs.YtgcbfbdhibbpdaaW.PrintMore
attribute [local go_sem] max2_int min2_int
set_option maxHeartbeats 1000000 in
theorem add_nil (v : Int) (w : World) :
    Calls Try.prog 10 #[.pointer none, .int .i64 v] w fun e w' => e = .returned (.int .u64 0) ∧ Below w.heap.size w w' := by
  go_enter Try.func10, Try.ntmps10
  go_wp2_with fail
  go_ret
  exact ⟨rfl, Below.refl _ _⟩
set_option maxHeartbeats 1000000 in
theorem add_bad {w : World} {base : Nat} {ok : Nat → Prop} {g : Nat} {kd : Int} {sl : List S76} {fr : List Int} (h : TB w base ok g kd sl fr) (v : Int) (hk : -9223372036854775808 ≤ kd ∧ kd ≤ 9223372036854775807) (hn : ¬ (1 ≤ kd ∧ kd ≤ 3)) :
    Calls Try.prog 10 #[.pointer (some ⟨g, 0, none⟩), .int .i64 v] w fun e w' => e = .returned (.int .u64 0) ∧ Below w.heap.size w w' := by
  obtain ⟨_, vs, vf, hb, hR, hF⟩ := h
  have hp0 : handle_Pack.f kd 0 0 = some 0 := by rw [pack_is kd 0 0 hk (by omega) (by omega)]; unfold pk; rw [if_neg (by omega)]
  have g0 := blk3_0 hb
  have HP0 := Aside0.mk hp0
  clear hb hR hF hp0 hk hn
  go_enter Try.func10, Try.ntmps10
  go_wp2_with fail
  refine (handle_Pack.calls kd 0 0 0 w HP0.out).mono ?_
  rintro e w1 ⟨rfl, hd1⟩
  have HB1 := Aside0.mk hd1.below
  clear hd1
  go_wp2_with fail
  go_ret
  exact ⟨rfl, HB1.out⟩
set_option maxHeartbeats 1000000 in
theorem handles_nil (w : World) :
    Calls Try.prog 28 #[.pointer none] w fun e w' => e = .returned (.slice none 0 0) ∧ Below w.heap.size w w' := by
  go_enter Try.func28, Try.ntmps28
  go_wp2_with fail
  go_ret
  exact ⟨rfl, Below.refl _ _⟩
/-- The handles of the slots from i on. -/
def hfrom (kd : Int) : List S76 → Int → List Int
  | [], _ => []
  | x :: t, i => if x.f1 = true then pk kd i x.f2 :: hfrom kd t (i + 1) else hfrom kd t (i + 1)
theorem hfrom_append (kd : Int) (a b : List S76) (i : Int) : hfrom kd (a ++ b) i = hfrom kd a i ++ hfrom kd b (i + a.length) := by
  induction a generalizing i with
  | nil => simp [hfrom]
  | cons x t ih =>
    have e : i + 1 + (t.length : Int) = i + ((x :: t).length : Int) := by simp; omega
    simp only [List.cons_append, hfrom]
    rw [ih (i + 1), e]
    split <;> simp
theorem hfrom_take (kd : Int) (sl : List S76) (k : Nat) (hk : k < sl.length) : hfrom kd (sl.take (k + 1)) 0 = hfrom kd (sl.take k) 0 ++ (if (sl.getD k z76).f1 = true then [pk kd k (sl.getD k z76).f2] else []) := by
  rw [List.take_succ_eq_append_getElem hk, hfrom_append]
  congr 1
  have e : sl.getD k z76 = sl[k] := by rw [List.getD_eq_getElem?_getD, List.getElem?_eq_getElem hk]; rfl
  rw [e]
  have hl : (sl.take k).length = k := by simp; omega
  simp only [hfrom, hl]
  rw [Int.zero_add]
theorem hfrom_len (kd : Int) (sl : List S76) (i : Int) : (hfrom kd sl i).length ≤ sl.length := by
  induction sl generalizing i with
  | nil => simp [hfrom]
  | cons x t ih =>
    have := ih (i + 1)
    simp only [hfrom]
    split <;> simp <;> omega
set_option maxRecDepth 100000 in
set_option maxHeartbeats 4000000 in
theorem handles_calls {w : World} {base : Nat} {ok : Nat → Prop} {g : Nat} {kd : Int} {sl : List S76} {fr : List Int} (h : TB w base ok g kd sl fr) (hk : -9223372036854775808 ≤ kd ∧ kd ≤ 9223372036854775807) (hgn : ∀ x ∈ sl, 0 ≤ x.f2 ∧ x.f2 < 1073741824) (hsl : sl.length ≤ 1000) :
    Calls Try.prog 28 #[.pointer (some ⟨g, 0, none⟩)] w fun e w' => ∃ v, e = .returned v ∧ (Kd.int .u64).R 27 w' w.heap.size (fun _ => True) v (hfrom kd sl 0) ∧ Below w.heap.size w w' := by
  have HT := Aside0.mk h
  have HK := Aside0.mk hk
  have HGN := Aside0.mk hgn
  obtain ⟨_, vs, vf, hb, hR, hF⟩ := h
  obtain ⟨A1, c1, rfl⟩ := Kd.R_slice hR
  have g1 := blk3_1 hb
  have HB := Aside0.mk hb
  have HR := Aside0.mk hR
  clear hb hR hF hk hgn
  go_enter Try.func28, Try.ntmps28
  go_wp2_with fail
  go_loopw [3, 13] (fun v i wr => ∃ k : Nat, k ≤ sl.length ∧ i = .int .i64 k ∧ Aside0 ((Kd.int .u64).R 27 wr w.heap.size (fun _ => True) v (hfrom kd (sl.take k) 0)) ∧ Aside0 (Below w.heap.size w wr)) (fun _ i _ => sl.length - (intOf i).toNat)
  case atStart => exact ⟨0, Nat.zero_le _, rfl, ⟨Kd.R_nil _ _ _ _ _⟩, ⟨Below.refl _ _⟩⟩
  case round =>
    obtain ⟨k, hk, rfl, hV, hB⟩ := hrel
    by_cases hlt : k < sl.length
    · have hT := HT.out.below hB.out
      obtain ⟨A9, c9, hv9⟩ := Kd.R_slice hV.out
      subst hv9
      obtain ⟨sb, c, he, hbb, ho, hc, e0, e1, e2, hf⟩ := k76_at (hT.parts ((hB.out.block _ HT.out.lt).trans HB.out)).2.1 hlt
      simp only [Value.slice.injEq, Option.some.injEq] at he
      obtain ⟨he1, _, he3⟩ := he
      subst he1 he3
      obtain ⟨x0, hx0⟩ : ∃ x, x = (sl.getD k z76).f0 := ⟨_, rfl⟩
      obtain ⟨x1, hx1⟩ : ∃ x, x = (sl.getD k z76).f1 := ⟨_, rfl⟩
      obtain ⟨x2, hx2⟩ : ∃ x, x = (sl.getD k z76).f2 := ⟨_, rfl⟩
      rw [← hx0] at e0
      rw [← hx1] at e1
      rw [← hx2] at e2
      have hin1 : 0 ≤ (k : Int) ∧ (k : Int) < (sl.length : Int) := by omega
      have hin2 : (k : Int) < (sl.length : Int) := by omega
      have hg2 : 0 ≤ x2 ∧ x2 < 1073741824 := by
        rw [hx2, List.getD_eq_getElem?_getD, List.getElem?_eq_getElem hlt]
        exact HGN.out _ (List.getElem_mem hlt)
      have HX := Aside0.mk (hfrom_take kd sl k hlt)
      rw [← hx1, ← hx2] at HX
      have HC := Aside0.mk (fun (W : World) (hW : Below wr.heap.size wr W) => handle_calls (hT.below hW) hlt HK.out (by rw [← hx2]; omega))
      rw [← hx2] at HC
      have HL := Aside0.mk (show (hfrom kd (sl.take k) 0).length ≤ 1000 by have := hfrom_len kd (sl.take k) 0; simp at this; omega)
      have HT2 := Aside0.mk hT
      clear hx0 hx1 hx2 hc ho hbb hf hT hg2
      cases x1 with
      | false =>
        go_wp2_with fail
        go_roundw
        case rel => exact ⟨k + 1, by omega, by go_num, ⟨by rw [HX.out, if_neg (by decide), List.append_nil]; exact Kd.R_alloc hV.out _⟩, ⟨below_alloc hB.out _⟩⟩
        case measure => simp [intOf]; omega
      | true =>
        go_wp2_with fail
        refine (HC.out _ (below_alloc (Below.refl _ _) _)).mono ?_
        rintro e w5 ⟨rfl, n5, rfl⟩
        have HV5 := Aside0.mk (Kd.R_drewN (Kd.R_alloc hV.out (.cells #[.int .i64 x0, .bool true, .int .i64 x2] 76)) n5)
        have HB5 := Aside0.mk (pw_below_drewN (below_alloc hB.out (.cells #[.int .i64 x0, .bool true, .int .i64 x2] 76)) n5)
        generalize (wr.alloc (.cells #[.int .i64 x0, .bool true, .int .i64 x2] 76)).drewN n5 = W5 at HV5 HB5 ⊢
        go_wp2_with (at_builtin; refine Kd.R_append (Kd.int .u64) (w0 := w) w.heap.size rfl _ _ 26 27 _ 8 rfl Try.underlying26 info27 rfl (show 0 < 1 by decide) (by decide) (.slice A9 (hfrom kd (sl.take k) 0).length c9) (hfrom kd (sl.take k) 0) (pk kd k x2) [.int .u64 (pk kd k x2)] (fun _ => True) (fun _ => False) rfl (by first | rfl | (go_simp; done) | (simp; done)) rfl (fun _ h => h.elim) (fun _ _ => trivial) HV5.out HB5.out HB5.out.size (by have := HL.out; omega) ?_; intro v1 w6 hR6 hb6 hg6 hat6; have HR6 := Aside0.mk hR6; have HB6 := Aside0.mk hb6; clear hg6 hat6 hR6 hb6)
        go_roundw
        case rel => exact ⟨k + 1, by omega, by go_num, ⟨by rw [HX.out, if_pos (by trivial)]; exact HR6.out⟩, HB6⟩
        case measure => simp [intOf]; omega
    · go_wp2
      go_ret
      have e : sl.take k = sl := List.take_of_length_le (by omega)
      rw [e] at hV
      exact ⟨_, rfl, hV.out, hB.out⟩
end Go.Proofs.Ytgcbfbdhibbpdaa.Tb
