/- result.Same, walked by hand: two lists held against each other, plain. -/
import Derived.Test.YtabmmdpioennfaaMSame
set_option linter.unusedVariables false
set_option linter.unusedSimpArgs false
namespace Go.Proofs.Ytabmmdpioennfaa.Re
open Go.RowKit Go.Maps Go.Proofs.YtabmmdpioennfaaW.PrintWords Go.Proofs.YtabmmdpioennfaaW.PrintLast Go.Proofs.YtabmmdpioennfaaW.PrintMore
attribute [local go_sem] max2_int min2_int
theorem rd43_get {l : List S43} {k : Nat} (hlt : k < l.length) : rd_T43 l (k : Int) = l[k] := by unfold rd_T43; rw [Int.toNat_natCast, List.getD_eq_getElem?_getD, List.getElem?_eq_getElem hlt]; rfl
def upTo (a b : List S43) (k : Nat) : Bool := (List.range k).all fun i => sameX (rd_T43 a (i : Int)) (rd_T43 b (i : Int))
theorem upTo_succ (a b : List S43) (k : Nat) : upTo a b (k + 1) = (upTo a b k && sameX (rd_T43 a (k : Int)) (rd_T43 b (k : Int))) := by
  unfold upTo; rw [List.range_succ, List.all_append]; simp
theorem upTo_false {a b : List S43} {k n : Nat} (hk : k < n) (h : sameX (rd_T43 a (k : Int)) (rd_T43 b (k : Int)) = false) : upTo a b n = false := by
  unfold upTo; rw [List.all_eq_false]
  exact ⟨k, List.mem_range.2 hk, by rw [h]; simp⟩
set_option maxHeartbeats 4000000 in
set_option maxRecDepth 100000 in
theorem alike_calls (A B : Option Addr) (c d : Nat) (a b : List S43) (w : World) (hA : Kd.C k43 w A a.length a) (hc : a.length ≤ c) (hB0 : Kd.C k43 w B b.length b) (hd : b.length ≤ d) (hl : a.length ≤ 1000) (hl2 : b.length ≤ 1000) (hda : ∀ x ∈ a, x.f2.length ≤ 1000) :
    Calls Try.prog 33 #[.slice A a.length c, .slice B b.length d, .func (.func 34) #[] #[]] w fun e w' => e = .returned (.bool (sameL a b)) ∧ Below w.heap.size w w' := by
  have HA := Aside0.mk hA
  have HBB := Aside0.mk hB0
  have HDA := Aside0.mk hda
  clear hA hB0 hda
  by_cases hab : a.length = b.length
  · have hnab : ((a.length : Int) != (b.length : Int)) = false := by simp [hab]
    have hS : sameL a b = upTo a b a.length := by unfold sameL upTo; rw [hab]; simp
    have HS := Aside0.mk hS
    have HAB := Aside0.mk hab
    clear hS
    go_enter Try.func33, Try.ntmps33
    go_wp2
    clear hab hnab
    have HB0 := Aside0.mk (Below.refl w.heap.size w)
    go_loopw [16] (fun vi wr => ∃ k : Nat, k ≤ a.length ∧ vi = .int .i64 k ∧ Aside0 (upTo a b k = true) ∧ Aside0 (Below w.heap.size w wr)) (fun vi _ => a.length - (intOf vi).toNat)
    case atStart => exact ⟨0, Nat.zero_le _, rfl, ⟨rfl⟩, HB0⟩
    case round =>
      obtain ⟨k, hk, rfl, hN, hB⟩ := hrel
      clear HB0
      by_cases hlt : k < a.length
      · have hltb : k < b.length := by have := HAB.out; omega
        obtain ⟨ad, A0, c0, hAd, e0, e1, e2, e3, hc0, hC0⟩ := at_T43 (Kd.C_below HA.out hB.out) (k : Int) (by omega) (by omega)
        obtain ⟨bd, B0, d0, hBd, g0, g1, g2, g3, hd0, hD0⟩ := at_T43 (Kd.C_below HBB.out hB.out) (k : Int) (by omega) (by omega)
        subst hAd hBd
        obtain ⟨x, hx⟩ : ∃ x, x = rd_T43 a (k : Int) := ⟨_, rfl⟩
        obtain ⟨y, hy⟩ : ∃ y, y = rd_T43 b (k : Int) := ⟨_, rfl⟩
        rw [← hx] at e0 e1 e2 e3 hc0 hC0
        rw [← hy] at g0 g1 g2 g3 hd0 hD0
        simp only [Int.toNat_natCast] at e0 e1 e2 e3 g0 g1 g2 g3
        have hxd := HDA.out _ (List.getElem_mem hlt)
        rw [← rd43_get hlt, ← hx] at hxd
        have hup : upTo a b (k + 1) = sameX x y := by rw [upTo_succ, hN.out, ← hx, ← hy]; rfl
        have hup2 : sameX x y = false → upTo a b a.length = false := fun h => upTo_false hlt (by rw [← hx, ← hy]; exact h)
        have HX := Aside0.mk hup
        have HX2 := Aside0.mk hup2
        have HC0 := Aside0.mk hC0
        have HCC0 := Aside0.mk hc0
        have HD0 := Aside0.mk hD0
        have HDD0 := Aside0.mk hd0
        have HXD := Aside0.mk hxd
        have hin : 0 ≤ (k : Int) ∧ (k : Int) < (a.length : Int) := by omega
        have hin2 : (k : Int) < (a.length : Int) := by omega
        have hin3 : (k : Int) < (b.length : Int) := by omega
        have G0 := Aside0.mk g0
        have G1 := Aside0.mk g1
        have G2 := Aside0.mk g2
        have G3 := Aside0.mk g3
        clear hx hy hC0 hc0 hD0 hd0 hxd hup hup2 g0 g1 g2 g3
        go_wp2
        have hbel := below_alloc (Below.refl wr.heap.size wr) (.cells #[.int .i64 x.f0, .int .u64 x.f1, .slice A0 x.f2.length c0, .int .i64 x.f3] 43)
        have HX4 := Aside0.mk (heap_alloc_new wr (.cells #[.int .i64 x.f0, .int .u64 x.f1, .slice A0 x.f2.length c0, .int .i64 x.f3] 43))
        have HB4 := Aside0.mk (below_alloc hB.out (.cells #[.int .i64 x.f0, .int .u64 x.f1, .slice A0 x.f2.length c0, .int .i64 x.f3] 43))
        have HC4 := Aside0.mk (Kd.C_below HC0.out hbel)
        have HD4 := Aside0.mk (Kd.C_below HD0.out hbel)
        have g0 := pw_cell_below hbel G0.out
        have g1 := pw_cell_below hbel G1.out
        have g2 := pw_cell_below hbel G2.out
        have g3 := pw_cell_below hbel G3.out
        clear e0 e1 e2 e3
        generalize wr.alloc (.cells #[.int .i64 x.f0, .int .u64 x.f1, .slice A0 x.f2.length c0, .int .i64 x.f3] 43) = W4 at HX4 HB4 HC4 HD4 g0 g1 g2 g3 ⊢
        clear hbel
        generalize wr.heap.size = rb at HX4 ⊢
        have q0 : ∀ W, Below W4.heap.size W4 W → W.cell? ⟨rb, 0, none⟩ = some (.int .i64 x.f0) := fun W h => pw_cell_below h (by unfold World.cell?; rw [HX4.out]; rfl)
        have q1 : ∀ W, Below W4.heap.size W4 W → W.cell? ⟨rb, 1, none⟩ = some (.int .u64 x.f1) := fun W h => pw_cell_below h (by unfold World.cell?; rw [HX4.out]; rfl)
        have q2 : ∀ W, Below W4.heap.size W4 W → W.cell? ⟨rb, 2, none⟩ = some (.slice A0 x.f2.length c0) := fun W h => pw_cell_below h (by unfold World.cell?; rw [HX4.out]; rfl)
        have q3 : ∀ W, Below W4.heap.size W4 W → W.cell? ⟨rb, 3, none⟩ = some (.int .i64 x.f3) := fun W h => pw_cell_below h (by unfold World.cell?; rw [HX4.out]; rfl)
        have p0 : ∀ W, Below W4.heap.size W4 W → W.cell? (bd.add (k * 4)) = some (.int .i64 y.f0) := fun W h => pw_cell_below h g0
        have p1 : ∀ W, Below W4.heap.size W4 W → W.cell? ⟨(bd.add (k * 4)).block, (bd.add (k * 4)).off + 1, none⟩ = some (.int .u64 y.f1) := fun W h => pw_cell_below h g1
        have p2 : ∀ W, Below W4.heap.size W4 W → W.cell? ⟨(bd.add (k * 4)).block, (bd.add (k * 4)).off + 2, none⟩ = some (.slice B0 y.f2.length d0) := fun W h => pw_cell_below h g2
        have p3 : ∀ W, Below W4.heap.size W4 W → W.cell? ⟨(bd.add (k * 4)).block, (bd.add (k * 4)).off + 3, none⟩ = some (.int .i64 y.f3) := fun W h => pw_cell_below h g3
        have hB00 : Below W4.heap.size W4 W4.drew := below_drew (Below.refl _ _)
        clear g0 g1 g2 g3
        obtain ⟨sv, hsv⟩ : ∃ sv, sv = sameX x y := ⟨_, rfl⟩
        have HSV := Aside0.mk hsv
        clear hsv
        go_region_held3 (fun w' => Below W4.heap.size W4 w')
          (first | assumption | exact below_step hB00 hb5)
          ((go_at_call 34; (with_reducible refine (same1_calls x y _ (Kd.C_below HC4.out hB00) HCC0.out (Kd.C_below HD4.out hB00) HDD0.out (by have := HXD.out; omega)).mono ?_); rintro e w5 ⟨he5, hb5⟩; rw [← HSV.out] at he5; subst he5))
        rename_i hHeld
        have HB5 := Aside0.mk (below_step HB4.out hHeld)
        clear hHeld q0 q1 q2 q3 p0 p1 p2 p3 hB00
        cases sv with
        | true =>
          go_wp2
          go_roundw
          case rel => exact ⟨k + 1, by omega, by go_num, ⟨by rw [HX.out, ← HSV.out]⟩, HB5⟩
          case measure => simp [intOf]; omega
        | false =>
          go_wp2
          go_ret
          exact ⟨by rw [HS.out, HX2.out HSV.out.symm]; rfl, HB5.out⟩
      · have hge : ¬ (k : Int) < (a.length : Int) := by omega
        have hge2 : ¬ (k : Int) < (b.length : Int) := by have := HAB.out; omega
        have HE := Aside0.mk (show upTo a b a.length = true by have := hN.out; rwa [show k = a.length by omega] at this)
        go_wp2
        go_ret
        exact ⟨by rw [HS.out, HE.out]; rfl, hB.out⟩
  · have hnab : ((a.length : Int) != (b.length : Int)) = true := by simp; omega
    have HS := Aside0.mk (show sameL a b = false by unfold sameL; rw [beq_eq_false_iff_ne.2 hab]; rfl)
    clear hab
    go_enter Try.func33, Try.ntmps33
    go_wp2
    go_ret
    exact ⟨by rw [HS.out]; rfl, Below.refl _ _⟩
/-! ### in the print's own form -/
def fewL (l : List S43) : Bool := decide (l.length ≤ 1000) && l.all fun x => decide (x.f2.length ≤ 1000 ∧ 0 ≤ x.f1 ∧ x.f1 < 18446744073709551616)
theorem fewL_iff {l : List S43} : fewL l = true ↔ l.length ≤ 1000 ∧ (∀ x ∈ l, x.f2.length ≤ 1000) ∧ ∀ x ∈ l, u64 x.f1 := by
  unfold fewL u64
  rw [Bool.and_eq_true, List.all_eq_true, decide_eq_true_eq]
  constructor
  · rintro ⟨h, k⟩
    exact ⟨h, fun x hx => (of_decide_eq_true (k x hx)).1, fun x hx => (of_decide_eq_true (k x hx)).2⟩
  · rintro ⟨h, k, m⟩
    exact ⟨h, fun x hx => decide_eq_true ⟨k x hx, m x hx⟩⟩
def result_Plain.f (l : List S43) : Option (List S43) := if fewL l = true then some (plainF l) else none
def result_Same.f (a b : List S43) : Option Bool := if fewL a = true ∧ fewL b = true then some (sameL (plainF a) (plainF b)) else none
def result_Full.f (l : List S43) : Option Bool := if fewL l = true then some (hasFull l) else none
theorem result_Plain.calls (A0 : Option Addr) (c0 : Nat) (l0 : List S43) (r : List S43) (w : World) (hr0 : Kd.C k43 w A0 l0.length l0) (hc0 : l0.length ≤ c0) (h : result_Plain.f l0 = some r) :
    Calls Try.prog 23 #[.slice A0 l0.length c0] w fun e w' => ∃ v, e = .returned v ∧ Kd.S k43 43 w' w.heap.size (fun _ => True) v r ∧ Below w.heap.size w w' := by
  unfold result_Plain.f at h
  by_cases c : fewL l0 = true
  · rw [if_pos c] at h; injection h with h; subst h
    obtain ⟨h1, h2, h3⟩ := fewL_iff.1 c
    exact plain_walk A0 c0 l0 w hr0 hc0 h1 h2 h3
  · rw [if_neg c] at h; cases h
theorem result_Full.calls (A0 : Option Addr) (c0 : Nat) (l0 : List S43) (r : Bool) (w : World) (hr0 : Kd.C k43 w A0 l0.length l0) (hc0 : l0.length ≤ c0) (h : result_Full.f l0 = some r) :
    Calls Try.prog 25 #[.slice A0 l0.length c0] w fun e w' => e = .returned (.bool r) ∧ Below w.heap.size w w' := by
  unfold result_Full.f at h
  by_cases c : fewL l0 = true
  · rw [if_pos c] at h; injection h with h; subst h
    exact full_walk A0 c0 l0 w hr0 hc0 (fewL_iff.1 c).1
  · rw [if_neg c] at h; cases h
theorem plainF_mem {l : List S43} {x : S43} (h : x ∈ plainF l) : ∃ y ∈ l, x.f0 = y.f0 ∧ x.f2 = y.f2 ∧ x.f3 = y.f3 := by
  obtain ⟨i, hi, rfl⟩ := List.mem_iff_getElem.1 h
  rw [plainF_length] at hi
  rw [plainF_get l i hi]
  exact ⟨l[i], List.getElem_mem hi, rfl, rfl, rfl⟩
set_option maxHeartbeats 1000000 in
theorem result_Same.calls (A0 : Option Addr) (c0 : Nat) (l0 : List S43) (A1 : Option Addr) (c1 : Nat) (l1 : List S43) (r : Bool) (w : World) (hr0 : Kd.C k43 w A0 l0.length l0) (hc0 : l0.length ≤ c0) (hr1 : Kd.C k43 w A1 l1.length l1) (hc1 : l1.length ≤ c1) (h : result_Same.f l0 l1 = some r) :
    Calls Try.prog 26 #[.slice A0 l0.length c0, .slice A1 l1.length c1] w fun e w' => e = .returned (.bool r) ∧ Below w.heap.size w w' := by
  unfold result_Same.f at h
  by_cases c : fewL l0 = true ∧ fewL l1 = true
  · rw [if_pos c] at h; injection h with h
    obtain ⟨h1, h2, h3⟩ := fewL_iff.1 c.1
    obtain ⟨k1, k2, k3⟩ := fewL_iff.1 c.2
    have HR0 := Aside0.mk hr0
    have HC0 := Aside0.mk hc0
    have HR1 := Aside0.mk hr1
    have HC1 := Aside0.mk hc1
    have H2 := Aside0.mk h2
    have H3 := Aside0.mk h3
    have K2 := Aside0.mk k2
    have K3 := Aside0.mk k3
    have HR := Aside0.mk h
    obtain ⟨p, hp⟩ : ∃ p, p = plainF l0 := ⟨_, rfl⟩
    obtain ⟨q, hq⟩ : ∃ q, q = plainF l1 := ⟨_, rfl⟩
    have HP := Aside0.mk hp
    have HQ := Aside0.mk hq
    have hpl : p.length ≤ 1000 := by rw [hp, plainF_length]; exact h1
    have hql : q.length ≤ 1000 := by rw [hq, plainF_length]; exact k1
    have HPD := Aside0.mk (show ∀ x ∈ p, x.f2.length ≤ 1000 from fun x hx => by
      rw [hp] at hx
      obtain ⟨y, hy, _, e, _⟩ := plainF_mem hx
      rw [e]; exact h2 y hy)
    clear hr0 hc0 hr1 hc1 h2 h3 k2 k3 h hp hq c
    go_enter Try.func26, Try.ntmps26
    go_wp2_with fail
    refine (plain_walk _ _ l0 _ HR0.out HC0.out h1 H2.out H3.out).mono ?_
    rw [← HP.out]
    rintro e w1 ⟨v1, rfl, hS1, hb1⟩
    obtain ⟨P1, m1, rfl⟩ := Kd.S_slice hS1
    have HS1 := Aside0.mk hS1
    have HB1 := Aside0.mk hb1
    clear hS1 hb1
    go_wp2_with fail
    refine (plain_walk _ _ l1 _ (Kd.C_below HR1.out HB1.out) HC1.out k1 K2.out K3.out).mono ?_
    rw [← HQ.out]
    rintro e w2 ⟨v2, rfl, hS2, hb2⟩
    obtain ⟨P2, m2, rfl⟩ := Kd.S_slice hS2
    have HS2 := Aside0.mk hS2
    have HB2 := Aside0.mk (below_step HB1.out hb2)
    have HS12 := Aside0.mk (Kd.S_below HS1.out hb2)
    clear hS2 hb2
    go_wp2_with fail
    refine (alike_calls _ _ _ _ p q _ (Kd.S_reads' HS12.out).2.2 (Kd.S_reads' HS12.out).2.1 (Kd.S_reads' HS2.out).2.2 (Kd.S_reads' HS2.out).2.1 hpl hql HPD.out).mono ?_
    rintro e w3 ⟨rfl, hb3⟩
    have HB3 := Aside0.mk (below_step HB2.out hb3)
    clear hb3
    go_wp2_with fail
    go_ret
    exact ⟨by rw [← HR.out, HP.out, HQ.out]; rfl, HB3.out⟩
  · rw [if_neg c] at h; cases h
end Go.Proofs.Ytabmmdpioennfaa.Re
