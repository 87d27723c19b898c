/- A table's methods, told by owners; what they do, plainly. -/
import Derived.Test.YtgcbfbdhibbpdaaMFrame
import Derived.Test.YtgcbfbdhibbpdaaMNil
import Derived.Test.YtgcbfbdhibbpdaaSk
set_option linter.unusedVariables false
set_option linter.unusedSimpArgs false
namespace Go.Proofs.Ytgcbfbdhibbpdaa.Tb
open Go.RowKit Go.Proofs.YtgcbfbdhibbpdaaW.PrintWords Go.Proofs.YtgcbfbdhibbpdaaW.PrintLast Go.Proofs.YtgcbfbdhibbpdaaW.PrintMore
/-- Whether a slot is used, and its generation. -/
def sk (sl : List S76) : List (Bool × Int) := sl.map fun x => (x.f1, x.f2)
theorem sk_length (sl : List S76) : (sk sl).length = sl.length := by simp [sk]
theorem sk_getD (sl : List S76) (i : Nat) : (sk sl).getD i (false, 0) = ((sl.getD i z76).f1, (sl.getD i z76).f2) := by
  unfold sk
  rw [List.getD_eq_getElem?_getD, List.getD_eq_getElem?_getD, List.getElem?_map]
  cases sl[i]? <;> rfl
theorem sk_set (sl : List S76) (i : Nat) (x : S76) : sk (sl.set i x) = (sk sl).set i (x.f1, x.f2) := by unfold sk; rw [List.map_set]
theorem sk_append (sl : List S76) (x : S76) : sk (sl ++ [x]) = sk sl ++ [(x.f1, x.f2)] := by simp [sk]
theorem lvb_sk (kd : Int) (sl : List S76) (hd : Int) : lvb kd sl hd = lvS kd (sk sl) hd := by
  unfold lvb lvS
  rw [sk_length, sk_getD]
theorem hfrom_sk (kd : Int) (sl : List S76) (i : Int) : hfrom kd sl i = hS kd (sk sl) i := by
  induction sl generalizing i with
  | nil => rfl
  | cons x t ih =>
    show _ = hS kd ((x.f1, x.f2) :: sk t) i
    simp only [hfrom, hS]
    rw [ih (i + 1)]
theorem gen_of {sl : List S76} {fr : List Int} (h : Good (sk sl) fr) : ∀ x ∈ sl, 0 ≤ x.f2 ∧ x.f2 < 1073741824 := fun x hx => h.gen (x.f1, x.f2) (by unfold sk; exact List.mem_map.2 ⟨x, hx, rfl⟩)
/-- The slots when a thing has been added. -/
def addL (sl : List S76) (fr : List Int) (v : Int) : List S76 := if fr = [] then sl ++ [⟨v, true, 0⟩] else sl.set (addI (sk sl) fr) ⟨v, true, addG (sk sl) fr⟩
theorem sk_addL (sl : List S76) (fr : List Int) (v : Int) : sk (addL sl fr v) = addS (sk sl) fr := by
  unfold addL addS
  by_cases c : fr = []
  · rw [if_pos c, if_pos c, sk_append]
  · rw [if_neg c, if_neg c, sk_set]
/-- The slots when slot i's thing has been dropped. -/
def dropL (sl : List S76) (i : Nat) : List S76 := sl.set i ⟨0, false, nx (sl.getD i z76).f2⟩
theorem sk_dropL (sl : List S76) (i : Nat) : sk (dropL sl i) = dropS (sk sl) i := by
  unfold dropL dropS
  rw [sk_set, sk_getD]
section
variable {w : World} {base : Nat} {own : Nat → Nat} {j g : Nat} {kd : Int} {sl : List S76} {fr : List Int}
theorem add_own (h : TB w base (tg own j) g kd sl fr) (hG : Good (sk sl) fr) (hk : 1 ≤ kd ∧ kd ≤ 3) (v : Int) (hbase : base ≤ w.heap.size) :
    Calls Try.prog 10 #[.pointer (some ⟨g, 0, none⟩), .int .i64 v] w fun e w' => e = .returned (.int .u64 (pk kd (addI (sk sl) fr) (addG (sk sl) fr))) ∧ TB w' base (tg (up own w.heap.size j) j) g kd (addL sl fr v) fr.dropLast ∧ Fr base (tg (up own w.heap.size j) j) w w' := by
  have h2 := TB_up (j := j) h
  have hlen := hG.len
  rw [sk_length] at hlen
  by_cases c : fr = []
  · subst c
    refine (add_new h2 v hk hbase (up_fresh own _ j) (by omega)).mono ?_
    rintro e w' ⟨rfl, h3, h4⟩
    refine ⟨?_, ?_, h4⟩
    · rw [addI_nil, addG_nil, sk_length]
    · unfold addL; rw [if_pos rfl]; exact h3
  · obtain ⟨f, i, rfl, hi, hu⟩ := hG.last c
    rw [sk_length] at hi
    have hgn := hG.genAt i
    have ea : addI (sk sl) (f ++ [(i : Int)]) = i := addI_snoc _ _ _
    have eg : addG (sk sl) (f ++ [(i : Int)]) = (sl.getD i z76).f2 := by unfold addG; rw [if_neg c, ea, sk_getD]
    rw [sk_getD] at hgn
    refine (add_old h2 v hk hi hbase hgn (by have := hG.flen; simp at this; omega)).mono ?_
    rintro e w' ⟨rfl, h3, h4⟩
    refine ⟨by rw [ea, eg], ?_, h4⟩
    unfold addL
    rw [if_neg c, ea, eg, List.dropLast_concat]
    exact h3
theorem drop_own (h : TB w base (tg own j) g kd sl fr) (hG : Good (sk sl) fr) (hd : Int) (h0 : 0 ≤ hd) (hu : hd < 18446744073709551616) (hbase : base ≤ w.heap.size) (hl : lvS kd (sk sl) hd = true) :
    Calls Try.prog 11 #[.pointer (some ⟨g, 0, none⟩), .int .u64 hd] w fun e w' => e = .returned (.bool true) ∧ TB w' base (tg (up own w.heap.size j) j) g kd (dropL sl (ixn hd)) (fr ++ [(ixn hd : Int)]) ∧ Fr base (tg (up own w.heap.size j) j) w w' := by
  refine (drop_calls (TB_up (j := j) h) hd h0 hu hbase (up_fresh own _ j) (gen_of hG) (by have := hG.flen; omega)).mono ?_
  rw [lvb_sk, hl]
  rintro e w' ⟨rfl, h3, h4⟩
  exact ⟨rfl, h3, h4⟩
theorem drop_not (h : TB w base (tg own j) g kd sl fr) (hd : Int) (h0 : 0 ≤ hd) (hu : hd < 18446744073709551616) (hl : lvS kd (sk sl) hd = false) :
    Calls Try.prog 11 #[.pointer (some ⟨g, 0, none⟩), .int .u64 hd] w fun e w' => e = .returned (.bool false) ∧ Below w.heap.size w w' := drop_no h hd h0 hu (by rw [lvb_sk]; exact hl)
theorem get_not (h : TB w base (tg own j) g kd sl fr) (hd : Int) (h0 : 0 ≤ hd) (hu : hd < 18446744073709551616) (hl : lvS kd (sk sl) hd = false) :
    Calls Try.prog 21 #[.pointer (some ⟨g, 0, none⟩), .int .u64 hd] w fun e w' => e = .returned (.tuple #[.int .i64 0, .bool false]) ∧ Below w.heap.size w w' := get_no h hd h0 hu (by rw [lvb_sk]; exact hl)
theorem get_own (h : TB w base (tg own j) g kd sl fr) (hd : Int) (h0 : 0 ≤ hd) (hu : hd < 18446744073709551616) (hl : lvS kd (sk sl) hd = true) :
    Calls Try.prog 21 #[.pointer (some ⟨g, 0, none⟩), .int .u64 hd] w fun e w' => e = .returned (.tuple #[.int .i64 (sl.getD (ixn hd) z76).f0, .bool true]) ∧ Below w.heap.size w w' := get_yes h hd hu (lvb_yes (by rw [lvb_sk]; exact hl))
theorem set_not (h : TB w base (tg own j) g kd sl fr) (hd v : Int) (h0 : 0 ≤ hd) (hu : hd < 18446744073709551616) (hl : lvS kd (sk sl) hd = false) :
    Calls Try.prog 22 #[.pointer (some ⟨g, 0, none⟩), .int .u64 hd, .int .i64 v] w fun e w' => e = .returned (.bool false) ∧ Below w.heap.size w w' := set_no h hd v h0 hu (by rw [lvb_sk]; exact hl)
/-- The slots when slot i's thing has been set. -/
def setL (sl : List S76) (i : Nat) (v : Int) : List S76 := sl.set i ⟨v, (sl.getD i z76).f1, (sl.getD i z76).f2⟩
theorem sk_setL (sl : List S76) (i : Nat) (v : Int) : sk (setL sl i v) = sk sl := by
  unfold setL
  rw [sk_set]
  apply List.ext_getElem?
  intro n
  rw [List.getElem?_set]
  split
  · rename_i e
    subst e
    split
    · rename_i hlt
      have := sk_getD sl i
      rw [List.getD_eq_getElem?_getD, List.getElem?_eq_getElem hlt, Option.getD_some] at this
      rw [List.getElem?_eq_getElem hlt, this]
    · rename_i hge
      rw [List.getElem?_eq_none (by omega)]
  · rfl
theorem set_own (h : TB w base (tg own j) g kd sl fr) (hd v : Int) (hu : hd < 18446744073709551616) (hbase : base ≤ w.heap.size) (hl : lvS kd (sk sl) hd = true) :
    Calls Try.prog 22 #[.pointer (some ⟨g, 0, none⟩), .int .u64 hd, .int .i64 v] w fun e w' => e = .returned (.bool true) ∧ TB w' base (tg (up own w.heap.size j) j) g kd (setL sl (ixn hd) v) fr ∧ Fr base (tg (up own w.heap.size j) j) w w' :=
  set_yes (TB_up (j := j) h) hd v hu (lvb_yes (by rw [lvb_sk]; exact hl)) hbase
theorem handles_own (h : TB w base (tg own j) g kd sl fr) (hG : Good (sk sl) fr) (hk : -9223372036854775808 ≤ kd ∧ kd ≤ 9223372036854775807) :
    Calls Try.prog 28 #[.pointer (some ⟨g, 0, none⟩)] w fun e w' => ∃ v, e = .returned v ∧ (Kd.int .u64).R 27 w' w.heap.size (fun _ => True) v (hS kd (sk sl) 0) ∧ Below w.heap.size w w' := by
  rw [← hfrom_sk]
  exact handles_calls h hk (gen_of hG) (by have := hG.len; rw [sk_length] at this; omega)
theorem len_own (h : TB w base (tg own j) g kd sl fr) :
    Calls Try.prog 13 #[.pointer (some ⟨g, 0, none⟩)] w fun e w' => e = .returned (.int .i64 ((sl.length : Int) - (fr.length : Int))) ∧ Below w.heap.size w w' := len_calls h
end
end Go.Proofs.Ytgcbfbdhibbpdaa.Tb
