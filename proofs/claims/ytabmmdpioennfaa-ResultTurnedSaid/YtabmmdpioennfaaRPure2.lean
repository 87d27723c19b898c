/- What few, model and awake come to. -/
import Derived.Test.YtabmmdpioennfaaRPure
import Derived.Test.YtabmmdpioennfaaRex5
import Derived.Test.YtabmmdpioennfaaRex6
import Derived.Test.YtabmmdpioennfaaMModel
set_option linter.unusedVariables false
set_option linter.unusedSimpArgs false
namespace Go.Proofs.Ytabmmdpioennfaa.Re
open Go.RowKit Go.Proofs.YtabmmdpioennfaaW.PrintWords Go.Proofs.YtabmmdpioennfaaW.PrintLast Go.Proofs.YtabmmdpioennfaaW.PrintMore
def bytesB (l : List Int) : Prop := ∀ b ∈ l, 0 ≤ b ∧ b ≤ 255
def i64 (x : Int) : Prop := -9223372036854775808 ≤ x ∧ x ≤ 9223372036854775807
/-- What holds of a list of results that comes in. -/
def wfL (l : List S43) : Prop := l.length ≤ 9223372036854775807 ∧ ∀ x ∈ l, (i64 x.f0 ∧ u64 x.f1 ∧ i64 x.f3) ∧ bytesB x.f2
def fewR (l : List S43) : Bool := (l.all fun x => decide (x.f2.length ≤ 100)) && decide (l.length ≤ 60)
def toR (x : S43) : S45 := ⟨x.f0, x.f1, strOfNums x.f2, x.f3⟩
theorem fewR_len {l : List S43} (h : fewR l = true) : l.length ≤ 60 := by unfold fewR at h; simp at h; exact h.2
theorem fewR_L {l : List S43} (hw : wfL l) (h : fewR l = true) : fewL l = true := by
  have hl := fewR_len h
  unfold fewR at h
  rw [Bool.and_eq_true, List.all_eq_true] at h
  exact fewL_iff.2 ⟨by omega, fun x hx => by have := of_decide_eq_true (h.1 x hx); omega, fun x hx => (hw.2 x hx).1.2.1⟩
theorem few_loop {l : List S43} (hl : l.length ≤ 9223372036854775807) (d : Nat) : ∀ (k i : Nat), i + d = l.length → d < k → steadinglaw21_few.l0 k l (i : Int) = some (((l.drop i).all fun x => decide (x.f2.length ≤ 100)) && decide (l.length ≤ 60)) := by
  induction d with
  | zero =>
    intro k i hi hk
    obtain ⟨k, rfl⟩ : ∃ q, k = q + 1 := ⟨k - 1, by omega⟩
    simp only [steadinglaw21_few.l0]
    rw [if_neg (by omega), List.drop_eq_nil_of_le (by omega)]
    congr 1
    rw [List.all_nil, Bool.true_and]
    exact decide_eq_decide.2 (by omega)
  | succ d ih =>
    intro k i hi hk
    obtain ⟨k, rfl⟩ : ∃ q, k = q + 1 := ⟨k - 1, by omega⟩
    have hlt : i < l.length := by omega
    simp only [steadinglaw21_few.l0]
    rw [if_pos (by omega), if_pos (by omega), rd43_get hlt, List.drop_eq_getElem_cons hlt, List.all_cons]
    by_cases c : ((l[i].f2.length : Int)) > 100
    · rw [if_pos c, decide_eq_false (by omega)]; rfl
    · rw [if_neg c, decide_eq_true (by omega), Bool.true_and, show wrap64 ((i : Int) + 1) = ((i + 1 : Nat) : Int) by unfold wrap64; omega]
      exact ih k (i + 1) (by omega) (by omega)
theorem few_is {l : List S43} (hw : wfL l) {k : Nat} (hk : l.length < k) : steadinglaw21_few.f k l = some (fewR l) := by
  unfold steadinglaw21_few.f
  rw [show (0 : Int) = ((0 : Nat) : Int) from rfl, few_loop hw.1 l.length k 0 (by omega) hk]; rfl
theorem model_loop {l : List S43} (hl : l.length ≤ 1000) (d : Nat) : ∀ (k i : Nat) (acc : List S45), i + d = l.length → d < k → acc.length = i → steadinglaw21_model.l0 k l acc (i : Int) = some (acc ++ (l.drop i).map toR) := by
  induction d with
  | zero =>
    intro k i acc hi hk ha
    obtain ⟨k, rfl⟩ : ∃ q, k = q + 1 := ⟨k - 1, by omega⟩
    simp only [steadinglaw21_model.l0]
    rw [if_neg (by omega), List.drop_eq_nil_of_le (by omega)]; simp
  | succ d ih =>
    intro k i acc hi hk ha
    obtain ⟨k, rfl⟩ : ∃ q, k = q + 1 := ⟨k - 1, by omega⟩
    have hlt : i < l.length := by omega
    simp only [steadinglaw21_model.l0]
    rw [if_pos (by omega), if_pos (by omega), if_pos (by omega), rd43_get hlt, List.drop_eq_getElem_cons hlt, show wrap64 ((i : Int) + 1) = ((i + 1 : Nat) : Int) by unfold wrap64; omega, ih k (i + 1) _ (by omega) (by omega) (by simp [ha])]
    rw [List.append_assoc, List.map_cons]; rfl
theorem model_is (l : List S43) (hl : l.length ≤ 1000) {k : Nat} (hk : l.length < k) : steadinglaw21_model.f k l = some (l.map toR) := by
  unfold steadinglaw21_model.f
  rw [show (0 : Int) = ((0 : Nat) : Int) from rfl, model_loop hl l.length k 0 [] (by omega) hk rfl]; rfl
theorem rd45_map {l : List S43} {i : Nat} (hi : i < l.length) : rd_T45 (l.map toR) (i : Int) = toR (rd_T43 l (i : Int)) := by
  rw [rd43_get hi]
  unfold rd_T45
  rw [Int.toNat_natCast, List.getD_eq_getElem?_getD, List.getElem?_map, List.getElem?_eq_getElem hi]; rfl
theorem byte_inj {x y : Int} (hx : 0 ≤ x ∧ x ≤ 255) (hy : 0 ≤ y ∧ y ≤ 255) (h : UInt8.ofNat x.toNat = UInt8.ofNat y.toNat) : x = y := by
  have h2 := congrArg UInt8.toNat h
  rw [UInt8.toNat_ofNat', UInt8.toNat_ofNat'] at h2
  have e1 : x.toNat % 2 ^ 8 = x.toNat := Nat.mod_eq_of_lt (by omega)
  have e2 : y.toNat % 2 ^ 8 = y.toNat := Nat.mod_eq_of_lt (by omega)
  omega
theorem map_byte_inj : ∀ {a b : List Int}, bytesB a → bytesB b → (a.map fun n => UInt8.ofNat n.toNat) = (b.map fun n => UInt8.ofNat n.toNat) → a = b
  | [], [], _, _, _ => rfl
  | [], _ :: _, _, _, h => by simp at h
  | _ :: _, [], _, _, h => by simp at h
  | x :: s, y :: t, ha, hb, h => by
    rw [List.map_cons, List.map_cons, List.cons.injEq] at h
    rw [byte_inj (ha x List.mem_cons_self) (hb y List.mem_cons_self) h.1, map_byte_inj (fun z hz => ha z (List.mem_cons_of_mem _ hz)) (fun z hz => hb z (List.mem_cons_of_mem _ hz)) h.2]
theorem strs_eq {a b : List Int} (ha : bytesB a) (hb : bytesB b) : (strOfNums a).toList = (strOfNums b).toList ↔ a = b := by
  constructor
  · intro h
    rw [ByteArray.toList_eq, ByteArray.toList_eq, strOfNums_data, strOfNums_data] at h
    exact map_byte_inj ha hb h
  · intro h; rw [h]
theorem awake_is : steadinglaw21_awake.f = some true := by decide +kernel
end Go.Proofs.Ytabmmdpioennfaa.Re
