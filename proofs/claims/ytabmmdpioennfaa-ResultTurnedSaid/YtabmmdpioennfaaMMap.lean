/- The map of numbers that result.Plain keeps: what it tells, and laws at its operations. -/
import Derived.Test.YtabmmdpioennfaaMClone
import Derived.Maps.OwnSet
set_option linter.unusedVariables false
set_option linter.unusedSimpArgs false
namespace Go.Proofs.Ytabmmdpioennfaa.Re
open Go.RowKit Go.Maps Go.Proofs.YtabmmdpioennfaaW.PrintWords Go.Proofs.YtabmmdpioennfaaW.PrintLast Go.Proofs.YtabmmdpioennfaaW.PrintMore
theorem law23 : Keyed Try.prog 23 := int_keyed Try.underlying23
theorem zero23 (w : World) : (zeroValue 23).run Try.prog w = .ok (.int .u64 0) w := by kernel_rfl
/-! ### laws at the operations, the value given -/
section
variable {P : Program} (w : World) {ops : Array Oper} {rest : List Oper} {o : Oper} {a : Act} {Q : Exit → Act → World → Prop}
theorem wpList_lookup_val (hg : o.guard = none) (m x : Operand) (t : TypeId) (hop : o.op = Op.lookup t m x true) (mv key v : Value) (hm : a.eval m = mv) (hx : a.eval x = key)
    (hrun : (Instr.lookup t mv key true).run P w = .ok v w) (hK : wpList P ops Q rest (a.put o.dst v) w) : wpList P ops Q (o :: rest) a w := by
  refine wpList_plain hg fun K' hK' => ?_
  unfold Oper.wp
  simp [execOp, hop, hm, hx, hrun, Result.andThen]
  exact hK' _ _ hK
theorem wpList_insert_own {H : Type} (hg : o.guard = none) (m x v : Operand) (t : TypeId) (hop : o.op = Op.insert t m x v)
    (k e : TypeId) (K : Keyed P k) (ht : P.underlying t = some (.map k e)) (R : Value → Option (DataW H × List MemPlace)) (b n : Nat) (D : DataW H)
    (hm : a.eval m = .map (some b)) (hown : w.ownsMap P k R b n D) (hn : n < maxLen) (key val : Value) (kl : Lit) (hx : a.eval x = key) (hv : a.eval v = val) (hkey : keyOf P k key = some kl)
    (d : DataW H) (ps : List MemPlace) (hval : R val = some (d, ps))
    (hK : ∀ w', w'.ownsMap P k R b (n + 1) (D.put kl d) → w.mapTurned w' b → wpList P ops Q rest (a.put o.dst undef) w') :
    wpList P ops Q (o :: rest) a w := by
  refine wpList_plain hg fun K' hK' => ?_
  obtain ⟨w', hrun, r1, r2⟩ := hown.store K ht hn hkey hval
  unfold Oper.wp
  simp [execOp, hop, hm, hx, hv, hrun, Result.andThen]
  exact hK' _ _ (hK w' r1 r2)
end
/-! ### what the map tells -/
/-- The handles that came, without 0, in the order in which they first came. -/
def addSeen (sn : List Int) (h : Int) : List Int := if h = 0 ∨ h ∈ sn then sn else sn ++ [h]
/-- A handle's number; one that has not come: the next one. -/
def numOf (sn : List Int) (h : Int) : Int := if h = 0 then 0 else (sn.idxOf h : Int) + 1
def u64 (h : Int) : Prop := 0 ≤ h ∧ h < 18446744073709551616
theorem u64_wf {h : Int} (hh : u64 h) : (Lit.int .u64 h).wf = true := by
  unfold u64 at hh
  have h1 : IntKind.u64.min = 0 := by rfl
  have h2 : IntKind.u64.max = 18446744073709551615 := by rfl
  simp only [Lit.wf, h1, h2, Bool.and_eq_true, decide_eq_true_eq]
  omega
theorem keyLit (h : Int) : WideAt.IsKeyLit (.int .u64 h) := trivial
structure MapIs (D : DataW Unit) (sn : List Int) : Prop where
  tidy : Tidy D
  has : ∀ h, Maps.has D (.int .u64 h) = decide (h = 0 ∨ h ∈ sn)
  at_ : ∀ h, (h = 0 ∨ h ∈ sn) → D.atKey (.int .u64 h) (.lit (.int .u64 0)) = .lit (.int .u64 (numOf sn h))
  size : Maps.size D = sn.length + 1
theorem MapIs.start : MapIs ((DataW.map [] : DataW Unit).put (.int .u64 0) (.lit (.int .u64 0))) [] := by
  have ht : Tidy (.map [] : DataW Unit) := tidy_empty
  refine ⟨ht.put (keyLit _) _, fun h => ?_, fun h hh => ?_, ?_⟩
  · by_cases c : h = 0
    · subst c; rw [has_put_same ht.isMap (keyLit _)]; simp
    · rw [has_put_other (by intro e; injection e with _ e; exact c e)]; simp [c, Maps.has]
  · rcases hh with rfl | hh
    · rw [atKey_put_same ht.isMap (keyLit _)]; simp [numOf]
    · simp at hh
  · rw [size_put ht]; simp [Maps.has, Maps.size]
theorem idxOf_snoc {sn : List Int} {h : Int} (hn : h ∉ sn) : (sn ++ [h]).idxOf h = sn.length := by
  rw [List.idxOf_append, if_neg hn]; simp
theorem MapIs.step {D : DataW Unit} {sn : List Int} (H : MapIs D sn) {h : Int} (h0 : h ≠ 0) (hn : h ∉ sn) : MapIs (D.put (.int .u64 h) (.lit (.int .u64 (sn.length + 1)))) (sn ++ [h]) := by
  refine ⟨H.tidy.put (keyLit _) _, fun g => ?_, fun g hg => ?_, ?_⟩
  · by_cases c : g = h
    · subst c; rw [has_put_same H.tidy.isMap (keyLit _)]; simp
    · rw [has_put_other (by intro e; injection e with _ e; exact c e), H.has]
      apply decide_eq_decide.2
      simp [c]
  · by_cases c : g = h
    · subst c
      rw [atKey_put_same H.tidy.isMap (keyLit _)]
      unfold numOf
      rw [if_neg h0, idxOf_snoc hn]
    · rw [atKey_put_other (by intro e; injection e with _ e; exact c e), H.at_ g (by simpa [c] using hg)]
      unfold numOf
      by_cases c0 : g = 0
      · rw [if_pos c0, if_pos c0]
      · rw [if_neg c0, if_neg c0]
        have hm : g ∈ sn := by simpa [c, c0] using hg
        rw [List.idxOf_append, if_pos hm]
  · rw [size_put H.tidy, H.has, decide_eq_false (by rintro (h1 | h1); exact h0 h1; exact hn h1), H.size]; simp
/-- The lookup, carried out. -/
theorem MapIs.look {D : DataW Unit} {sn : List Int} (H : MapIs D sn) {w : World} {b n : Nat} (ho : w.ownsMap Try.prog 23 (plainElem Try.prog 23) b n D) {h : Int} (hh : u64 h) :
    (Instr.lookup 53 (.map (some b)) (.int .u64 h) true).run Try.prog w = .ok (.tuple #[.int .u64 (if h = 0 ∨ h ∈ sn then numOf sn h else 0), .bool (decide (h = 0 ∨ h ∈ sn))]) w := by
  have hkey : keyOf Try.prog 23 (.int .u64 h) = some (.int .u64 h) := keyOf_int_mk Try.underlying23 (u64_wf hh)
  obtain ⟨v, ps, hrun, hv⟩ := ho.look_ok law23 Try.underlying53 (zero23 w) (zd := .lit (.int .u64 0)) (zp := []) (plainElem_int Try.underlying23 (by decide)) hkey
  rw [H.has] at hrun
  obtain ⟨c, rfl, hc, hwc⟩ := plainElem_int_inv Try.underlying23 hv
  have hc1 := congrArg Prod.fst hc
  simp only at hc1
  rw [hrun]
  by_cases c : h = 0 ∨ h ∈ sn
  · rw [H.at_ h c] at hc1
    injection hc1 with hc1
    injection hc1 with _ hc1
    rw [if_pos c, hc1]
  · rw [if_neg c]
    have hno : Maps.has D (.int .u64 h) = false := by rw [H.has, decide_eq_false c]
    rw [atKey_of_not_has hno] at hc1
    injection hc1 with hc1
    injection hc1 with _ hc1
    rw [hc1]
end Go.Proofs.Ytabmmdpioennfaa.Re
