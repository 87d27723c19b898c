/- The calls of the results' laws, in one form; rows whose elements lead to what came in. -/
import Derived.Test.YtabmmdpioennfaaRPure2
set_option linter.unusedVariables false
set_option linter.unusedSimpArgs false
namespace Go.Proofs.Ytabmmdpioennfaa.Re
open Go.RowKit Go.Proofs.YtabmmdpioennfaaW.PrintWords Go.Proofs.YtabmmdpioennfaaW.PrintLast Go.Proofs.YtabmmdpioennfaaW.PrintMore
theorem drawn_below {w w1 : World} (h : Drawn0 w w1) : Below w.heap.size w w1 := by obtain ⟨n_, rfl⟩ := h; exact pw_below_drewN (Below.refl _ _) n_
theorem c_few {A : Option Addr} {c : Nat} {l : List S43} {w : World} (hC : Kd.C k43 w A l.length l) (hc : l.length ≤ c) (hw : wfL l) :
    Calls Try.prog 21 #[.slice A l.length c] w fun e w' => e = .returned (.bool (fewR l)) ∧ Below w.heap.size w w' :=
  (steadinglaw21_few.calls (l.length + 1) A c l _ w hC hc (few_is hw (Nat.lt_succ_self _))).mono fun e w' ⟨he, hd⟩ => ⟨he, drawn_below hd⟩
theorem c_awake (w : World) : Calls Try.prog 20 #[] w fun e w' => e = .returned (.bool true) ∧ Below w.heap.size w w' := steadinglaw21_awake.calls true w awake_is
theorem c_same {A B : Option Addr} {c d : Nat} {a b : List S43} {w : World} (hA : Kd.C k43 w A a.length a) (hc : a.length ≤ c) (hB : Kd.C k43 w B b.length b) (hd : b.length ≤ d) (ha : fewL a = true) (hb : fewL b = true) (v : Bool) (hv : v = true ↔ SameP a b) :
    Calls Try.prog 26 #[.slice A a.length c, .slice B b.length d] w fun e w' => e = .returned (.bool v) ∧ Below w.heap.size w w' := by
  obtain ⟨u, hu, hi⟩ := same_f ha hb
  have e : u = v := by rw [Bool.eq_iff_iff, hi, hv]
  subst e
  exact result_Same.calls A c a B d b u w hA hc hB hd hu
noncomputable def sameB (a b : List S43) : Bool := @decide (SameP a b) (Classical.propDecidable _)
theorem sameB_iff {a b : List S43} : sameB a b = true ↔ SameP a b := ⟨fun h => @of_decide_eq_true _ (Classical.propDecidable _) h, fun h => @decide_eq_true _ (Classical.propDecidable _) h⟩
theorem c_plain {A : Option Addr} {c : Nat} {l : List S43} {w : World} (hA : Kd.C k43 w A l.length l) (hc : l.length ≤ c) (ha : fewL l = true) :
    Calls Try.prog 23 #[.slice A l.length c] w fun e w' => ∃ B d, e = .returned (.slice B (plainF l).length d) ∧ (plainF l).length ≤ d ∧ Kd.C k43 w' B (plainF l).length (plainF l) ∧ Below w.heap.size w w' :=
  (result_Plain.calls A c l (plainF l) w hA hc (by unfold result_Plain.f; rw [if_pos ha])).mono fun e w' ⟨v, he, hS, hB⟩ => by
    obtain ⟨B, d, rfl, hd, hC⟩ := Kd.S_reads hS
    exact ⟨B, d, he, hd, hC, hB⟩
/-- A row of results whose data are what came in (in w). -/
theorem fixed_reads {w wr : World} {base : Nat} {ok : Nat → Prop} {v : Value} {xs : List S43} (h : (Kd.fixed k43 w).R 43 wr base ok v xs) (hb : Below w.heap.size w wr) : ∃ A c, v = .slice A xs.length c ∧ xs.length ≤ c ∧ Kd.C k43 wr A xs.length xs := by
  obtain ⟨A, c, he, hc, hC⟩ := Kd.R_reads h
  refine ⟨A, c, he, hc, hC.1, hC.2.1, fun h0 => ?_⟩
  obtain ⟨ad, hA, hcc⟩ := hC.2.2 h0
  refine ⟨ad, hA, fun j p hj => ?_⟩
  obtain ⟨cs, h1, h2, h3⟩ := hcc j p hj
  exact ⟨cs, h1, k43.K_below hb h2, h3⟩
theorem wf_take {l : List S43} (h : wfL l) (n : Nat) : wfL (l.take n) := ⟨by rw [List.length_take]; have := h.1; omega, fun x hx => h.2 x (List.mem_of_mem_take hx)⟩
theorem few_mem {l : List S43} (h : fewL l = true) {x : S43} (hx : x ∈ l) : x.f2.length ≤ 1000 ∧ u64 x.f1 := ⟨(fewL_iff.1 h).2.1 x hx, (fewL_iff.1 h).2.2 x hx⟩
end Go.Proofs.Ytabmmdpioennfaa.Re
