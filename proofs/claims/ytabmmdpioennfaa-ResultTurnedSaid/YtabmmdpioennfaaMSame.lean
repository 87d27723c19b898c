/- result.Same and result.Full, walked by hand. -/
import Derived.Test.YtabmmdpioennfaaMPlain
set_option linter.unusedVariables false
set_option linter.unusedSimpArgs false
namespace Go.Proofs.Ytabmmdpioennfaa.Re
open Go.RowKit Go.Maps Go.Proofs.YtabmmdpioennfaaW.PrintWords Go.Proofs.YtabmmdpioennfaaW.PrintLast Go.Proofs.YtabmmdpioennfaaW.PrintMore
attribute [local go_sem] max2_int min2_int
/-! ### Full -/
theorem full1_calls (a b n : Int) (A : Option Addr) (m c : Nat) (v : Bool) (w : World) (hv : (a == 4) = v) :
    Calls Try.prog 32 #[.agg #[.int .i64 a, .int .u64 b, .slice A m c, .int .i64 n]] w fun e w' => e = .returned (.bool v) ∧ Below w.heap.size w w' := by
  go_enter Try.func32, Try.ntmps32
  go_wp2_with fail
  go_ret
  exact ⟨rfl, below_alloc (Below.refl _ _) _⟩
def hasFull (l : List S43) : Bool := l.any fun x => x.f0 == 4
set_option maxHeartbeats 2000000 in
theorem index_calls (A : Option Addr) (c : Nat) (l : List S43) (w : World) (hC : Kd.C k43 w A l.length l) (hc : l.length ≤ c) (hl : l.length ≤ 1000) :
    Calls Try.prog 36 #[.slice A l.length c, .func (.func 32) #[] #[]] w fun e w' => ∃ r : Int, e = .returned (.int .i64 r) ∧ (-1 ≤ r ∧ r < 1000) ∧ Aside0 (hasFull l = decide (0 ≤ r)) ∧ Below w.heap.size w w' := by
  have HC := Aside0.mk hC
  clear hC
  go_enter Try.func36, Try.ntmps36
  go_wp2
  have HB0 := Aside0.mk (Below.refl w.heap.size w)
  go_loopw [8] (fun vi wr => ∃ k : Nat, k ≤ l.length ∧ vi = .int .i64 k ∧ Aside0 (hasFull (l.take k) = false) ∧ Aside0 (Below w.heap.size w wr)) (fun vi _ => l.length - (intOf vi).toNat)
  case atStart => exact ⟨0, Nat.zero_le _, rfl, ⟨rfl⟩, HB0⟩
  case round =>
    obtain ⟨k, hk, rfl, hN, hB⟩ := hrel
    clear HB0
    by_cases hlt : k < l.length
    · obtain ⟨ad, A0, c0, hA, e0, e1, e2, e3, hc0, hC0⟩ := at_T43 (Kd.C_below HC.out hB.out) (k : Int) (by omega) (by omega)
      subst hA
      have hrd : rd_T43 l (k : Int) = l[k] := by unfold rd_T43; rw [Int.toNat_natCast, List.getD_eq_getElem?_getD, List.getElem?_eq_getElem hlt]; rfl
      rw [hrd] at e0 e1 e2 e3
      simp only [Int.toNat_natCast] at e0 e1 e2 e3
      obtain ⟨x, hx⟩ : ∃ x, x = l[k] := ⟨_, rfl⟩
      rw [← hx] at e0 e1 e2 e3
      have HX := Aside0.mk hx
      have hin : 0 ≤ (k : Int) ∧ (k : Int) < (l.length : Int) := by omega
      have hin2 : (k : Int) < (l.length : Int) := by omega
      have htk : hasFull (l.take (k + 1)) = (x.f0 == 4) := by
        have hn := hN.out
        unfold hasFull at hn ⊢
        rw [List.take_succ_eq_append_getElem hlt, List.any_append, hn, ← hx]; simp
      have HTK := Aside0.mk htk
      have HE := Aside0.mk (show hasFull l = (hasFull (l.take (k + 1)) || hasFull (l.drop (k + 1))) by unfold hasFull; rw [← List.any_append, List.take_append_drop])
      clear hx hrd hc0 hC0 htk
      cases hb : (x.f0 == 4) with
      | true =>
        have HBT := Aside0.mk hb
        clear hb
        go_wp2_with (go_at_call 32; (with_reducible refine (full1_calls _ _ _ _ _ _ _ _ HBT.out).mono ?_); rintro e w5 ⟨rfl, hb5⟩; have HB5 := Aside0.mk (below_step hB.out hb5); clear hb5)
        go_ret
        exact ⟨_, rfl, ⟨by omega, by omega⟩, ⟨by rw [HE.out, HTK.out, HBT.out]; simp⟩, HB5.out⟩
      | false =>
        have HBT := Aside0.mk hb
        clear hb
        go_wp2_with (go_at_call 32; (with_reducible refine (full1_calls _ _ _ _ _ _ _ _ HBT.out).mono ?_); rintro e w5 ⟨rfl, hb5⟩; have HB5 := Aside0.mk (below_step hB.out hb5); clear hb5)
        go_roundw
        case rel => exact ⟨k + 1, by omega, by go_num, ⟨by rw [HTK.out, HBT.out]⟩, HB5⟩
        case measure => simp [intOf]; omega
    · have hge : ¬ (k : Int) < (l.length : Int) := by omega
      have HE := Aside0.mk (show hasFull l = false by have := hN.out; rw [List.take_of_length_le (by omega)] at this; exact this)
      go_wp2
      go_ret
      exact ⟨_, rfl, ⟨by omega, by omega⟩, ⟨by rw [HE.out]; rfl⟩, hB.out⟩
set_option maxHeartbeats 1000000 in
theorem full_walk (A : Option Addr) (c : Nat) (l : List S43) (w : World) (hC : Kd.C k43 w A l.length l) (hc : l.length ≤ c) (hl : l.length ≤ 1000) :
    Calls Try.prog 25 #[.slice A l.length c] w fun e w' => e = .returned (.bool (hasFull l)) ∧ Below w.heap.size w w' := by
  have HC := Aside0.mk hC
  clear hC
  have hcf : Calls Try.prog 31 #[.slice A l.length c, .func (.func 32) #[] #[]] w fun e w' => e = .returned (.bool (hasFull l)) ∧ Below w.heap.size w w' := by
    go_enter Try.func31, Try.ntmps31
    go_wp2_with fail
    refine (index_calls _ _ _ _ HC.out hc hl).mono ?_
    rintro e w1 ⟨r, rfl, hr, hf, hb⟩
    have HB := Aside0.mk hb
    clear hb
    go_wp2
    go_ret
    exact ⟨by rw [hf.out]; rfl, HB.out⟩
  have HF := Aside0.mk hcf
  clear hcf
  go_enter Try.func25, Try.ntmps25
  go_wp2_with fail
  refine HF.out.mono ?_
  rintro e w1 ⟨rfl, hb⟩
  have HB := Aside0.mk hb
  clear hb
  go_wp2
  go_ret
  exact ⟨rfl, HB.out⟩
/-! ### Same -/
def sameX (x y : S43) : Bool := x.f0 == y.f0 && (x.f1 == y.f1 && (x.f3 == y.f3 && decide (x.f2 = y.f2)))
theorem equal_calls {A B : Option Addr} {c d : Nat} {a b : List Int} {w : World} (hA : (Kd.int .u8).C w A a.length a) (hc : a.length ≤ c) (hB : (Kd.int .u8).C w B b.length b) (hd : b.length ≤ d) (hl : a.length ≤ 100000) :
    Calls Try.prog 35 #[.slice A a.length c, .slice B b.length d] w fun e w' => e = .returned (.bool (decide (a = b))) ∧ Below w.heap.size w w' :=
  (slices_Equal_byte_byte.calls 100001 A c a B d b _ w hA hc hB hd (equal_is a b hl)).mono fun e w' ⟨he, hd⟩ => ⟨he, by first | exact hd | (obtain ⟨n_, rfl⟩ := hd; exact pw_below_drewN (Below.refl _ _) n_)⟩
set_option maxHeartbeats 2000000 in
theorem same1_calls (x y : S43) {A B : Option Addr} {c d : Nat} (w : World) (hA : (Kd.int .u8).C w A x.f2.length x.f2) (hc : x.f2.length ≤ c) (hB : (Kd.int .u8).C w B y.f2.length y.f2) (hd : y.f2.length ≤ d) (hl : x.f2.length ≤ 100000) :
    Calls Try.prog 34 #[.agg #[.int .i64 x.f0, .int .u64 x.f1, .slice A x.f2.length c, .int .i64 x.f3], .agg #[.int .i64 y.f0, .int .u64 y.f1, .slice B y.f2.length d, .int .i64 y.f3]] w fun e w' => e = .returned (.bool (sameX x y)) ∧ Below w.heap.size w w' := by
  have HA := Aside0.mk hA
  have HB := Aside0.mk hB
  have HC := Aside0.mk hc
  have HD := Aside0.mk hd
  clear hA hB hc hd
  have hbel := below_alloc (below_alloc (Below.refl w.heap.size w) (.cells #[.int .i64 x.f0, .int .u64 x.f1, .slice A x.f2.length c, .int .i64 x.f3] 43)) (.cells #[.int .i64 y.f0, .int .u64 y.f1, .slice B y.f2.length d, .int .i64 y.f3] 43)
  have HBEL := Aside0.mk hbel
  clear hbel
  cases c0 : (x.f0 == y.f0) with
  | false =>
    have hs : sameX x y = false := by unfold sameX; rw [c0]; rfl
    have HS := Aside0.mk hs
    clear hs
    go_enter Try.func34, Try.ntmps34
    go_wp2_with fail
    go_ret
    exact ⟨by rw [HS.out]; rfl, HBEL.out⟩
  | true =>
    cases c1 : (x.f1 == y.f1) with
    | false =>
      have hs : sameX x y = false := by unfold sameX; rw [c0, c1]; rfl
      have HS := Aside0.mk hs
      clear hs
      go_enter Try.func34, Try.ntmps34
      go_wp2_with fail
      go_ret
      exact ⟨by rw [HS.out]; rfl, HBEL.out⟩
    | true =>
      cases c3 : (x.f3 == y.f3) with
      | false =>
        have hs : sameX x y = false := by unfold sameX; rw [c0, c1, c3]; rfl
        have HS := Aside0.mk hs
        clear hs
        go_enter Try.func34, Try.ntmps34
        go_wp2_with fail
        go_ret
        exact ⟨by rw [HS.out]; rfl, HBEL.out⟩
      | true =>
        have hs : sameX x y = decide (x.f2 = y.f2) := by unfold sameX; rw [c0, c1, c3]; rfl
        have HS := Aside0.mk hs
        clear hs
        go_enter Try.func34, Try.ntmps34
        go_wp2_with fail
        refine (equal_calls (Kd.C_below HA.out HBEL.out) HC.out (Kd.C_below HB.out HBEL.out) HD.out hl).mono ?_
        rintro e w1 ⟨rfl, hb⟩
        have HB1 := Aside0.mk (below_step HBEL.out hb)
        clear hb
        go_wp2_with fail
        go_ret
        exact ⟨by rw [HS.out]; rfl, HB1.out⟩
def sameL (a b : List S43) : Bool := a.length == b.length && (List.range a.length).all fun i => sameX (rd_T43 a (i : Int)) (rd_T43 b (i : Int))
end Go.Proofs.Ytabmmdpioennfaa.Re
