/- TableHolds, plainly: what holds behind each step of the script. -/
import Derived.Test.YtgcbfbdhibbpdaaSk3
import Derived.Test.YtgcbfbdhibbpdaaMOwn
import Derived.Test.YtgcbfbdhibbpdaaPrAll
set_option linter.unusedVariables false
namespace Go.Proofs.Ytgcbfbdhibbpdaa.Tb
open Go.RowKit Go.Proofs.YtgcbfbdhibbpdaaW.PrintWords
/-! ### slots of numbers -/
theorem addL_getD {sl : List S76} {fr : List Int} (h : Good (sk sl) fr) (v : Int) (i : Nat) : (addL sl fr v).getD i z76 = if i = addI (sk sl) fr then ⟨v, true, addG (sk sl) fr⟩ else sl.getD i z76 := by
  by_cases c : fr = []
  · subst c
    rw [addI_nil, addG_nil, sk_length]
    unfold addL
    rw [if_pos rfl, List.getD_eq_getElem?_getD]
    by_cases e : i = sl.length
    · rw [if_pos e, e, List.getElem?_append_right (Nat.le_refl _)]; simp
    · rw [if_neg e]
      rcases Nat.lt_or_ge i sl.length with hl | hg
      · rw [List.getElem?_append_left hl, List.getD_eq_getElem?_getD]
      · rw [List.getElem?_eq_none (by simp; omega), List.getD_eq_getElem?_getD, List.getElem?_eq_none hg]
  · obtain ⟨f, k, rfl, hk, hu⟩ := h.last c
    rw [sk_length] at hk
    have e1 := addI_snoc (sk sl) f k
    unfold addL
    rw [if_neg c, e1]
    by_cases e : i = k
    · subst e
      rw [if_pos rfl, List.getD_eq_getElem?_getD, List.getElem?_set_self hk]; rfl
    · rw [if_neg e, List.getD_eq_getElem?_getD, List.getElem?_set_ne (fun h => e h.symm), List.getD_eq_getElem?_getD]
theorem addL_length {sl : List S76} {fr : List Int} (v : Int) : (addL sl fr v).length = if fr = [] then sl.length + 1 else sl.length := by
  unfold addL
  split <;> simp
theorem setL_getD {sl : List S76} {k : Nat} (hk : k < sl.length) (v : Int) (i : Nat) : (setL sl k v).getD i z76 = if i = k then ⟨v, (sl.getD k z76).f1, (sl.getD k z76).f2⟩ else sl.getD i z76 := by
  unfold setL
  by_cases e : i = k
  · subst e
    rw [if_pos rfl, List.getD_eq_getElem?_getD, List.getElem?_set_self hk, Option.getD_some]
  · rw [if_neg e, List.getD_eq_getElem?_getD, List.getElem?_set_ne (fun h => e h.symm), List.getD_eq_getElem?_getD]
theorem dropL_getD {sl : List S76} {k : Nat} (hk : k < sl.length) (i : Nat) : (dropL sl k).getD i z76 = if i = k then ⟨0, false, nx (sl.getD k z76).f2⟩ else sl.getD i z76 := by
  unfold dropL
  by_cases e : i = k
  · subst e
    rw [if_pos rfl, List.getD_eq_getElem?_getD, List.getElem?_set_self hk, Option.getD_some]
  · rw [if_neg e, List.getD_eq_getElem?_getD, List.getElem?_set_ne (fun h => e h.symm), List.getD_eq_getElem?_getD]
theorem dropL_length (sl : List S76) (k : Nat) : (dropL sl k).length = sl.length := by unfold dropL; simp
theorem setL_length (sl : List S76) (k : Nat) (v : Int) : (setL sl k v).length = sl.length := by unfold setL; simp
/-! ### slots of pairs: their used things are all one -/
def AllXY (sl : List Pr.S95) : Prop := ∀ i : Nat, (sl.getD i Pr.z95).f1 = true → (sl.getD i Pr.z95).f0 = (⟨#[120]⟩, ⟨#[121]⟩)
theorem AllXY.set {sl : List Pr.S95} (h : AllXY sl) (i : Nat) (x : Pr.S95) (hx : x.f1 = true → x.f0 = (⟨#[120]⟩, ⟨#[121]⟩)) : AllXY (sl.set i x) := by
  intro j hj
  by_cases e : i = j
  · subst e
    by_cases hl : i < sl.length
    · rw [List.getD_eq_getElem?_getD, List.getElem?_set_self hl] at hj ⊢
      exact hx hj
    · rw [List.set_eq_of_length_le (by omega)] at hj ⊢
      exact h i hj
  · rw [List.getD_eq_getElem?_getD, List.getElem?_set_ne e, ← List.getD_eq_getElem?_getD] at hj ⊢
    exact h j hj
theorem AllXY.add {sl : List Pr.S95} (h : AllXY sl) (fr : List Int) : AllXY (Pr.addL sl fr ⟨#[120]⟩ ⟨#[121]⟩) := by
  unfold Pr.addL
  split
  · intro j hj
    rcases Nat.lt_trichotomy j sl.length with hl | hl | hl
    · rw [List.getD_eq_getElem?_getD, List.getElem?_append_left hl, ← List.getD_eq_getElem?_getD] at hj ⊢
      exact h j hj
    · subst hl
      rw [List.getD_eq_getElem?_getD, List.getElem?_append_right (Nat.le_refl _)]; simp
    · rw [List.getD_eq_getElem?_getD, List.getElem?_eq_none (by simp; omega)] at hj
      exact absurd (show false = true from hj) (by decide)
  · exact h.set _ _ (fun _ => rfl)
theorem AllXY.drop {sl : List Pr.S95} (h : AllXY sl) (k : Nat) : AllXY (Pr.dropL sl k) := by
  unfold Pr.dropL
  exact h.set _ _ (fun e => absurd (show false = true from e) (by decide))
/-! ### what holds -/
structure InvH (q : Nat) (sl : List S76) (sp : List Pr.S95) (fr hs vs : List Int) : Prop where
  good : Good (sk sl) fr
  q80 : q ≤ 80
  len : sl.length ≤ q
  same : Pr.sk sp = sk sl
  xy : AllXY sp
  hl : hs.length = vs.length
  lv : ∀ i, i < hs.length → 0 ≤ hs.getD i 0 ∧ hs.getD i 0 < 18446744073709551616 ∧ lvS 1 (sk sl) (hs.getD i 0) = true ∧ (sl.getD (ixn (hs.getD i 0)) z76).f0 = vs.getD i 0
  inj : ∀ i j, i < hs.length → j < hs.length → hs.getD i 0 = hs.getD j 0 → i = j
  count : (sl.length : Int) - (fr.length : Int) = hs.length
  hq : hs.length ≤ q
theorem InvH.start : InvH 0 [] [] [] [] [] :=
  ⟨Good.nil, by omega, by simp, rfl, fun i h => absurd (show false = true from h) (by decide), rfl, fun i h => absurd h (by simp), fun i j h => absurd h (by simp), by simp, by simp⟩
theorem InvH.keep {q : Nat} {sl : List S76} {sp : List Pr.S95} {fr hs vs : List Int} (h : InvH q sl sp fr hs vs) (hq : q + 1 ≤ 80) : InvH (q + 1) sl sp fr hs vs :=
  ⟨h.good, hq, by have := h.len; omega, h.same, h.xy, h.hl, h.lv, h.inj, h.count, by have := h.hq; omega⟩
theorem pk_in1 {s : List (Bool × Int)} {fr : List Int} (h : Good s fr) : 0 ≤ pk 1 (addI s fr) (addG s fr) ∧ pk 1 (addI s fr) (addG s fr) < 18446744073709551616 ∧ ixn (pk 1 (addI s fr) (addG s fr)) = addI s fr := by
  obtain ⟨r1, r2⟩ := add_range h
  obtain ⟨p1, p2, p3, _⟩ := pk_parts (k := 1) (by omega) r1 r2
  exact ⟨by omega, p2, p3⟩
theorem snoc_get (l : List Int) (x : Int) (i : Nat) : (l ++ [x]).getD i 0 = if i = l.length then x else l.getD i 0 := by
  rw [List.getD_eq_getElem?_getD]
  by_cases e : i = l.length
  · rw [if_pos e, e, List.getElem?_append_right (Nat.le_refl _)]; simp
  · rw [if_neg e]
    rcases Nat.lt_or_ge i l.length with hl | hg
    · rw [List.getElem?_append_left hl, List.getD_eq_getElem?_getD]
    · rw [List.getElem?_eq_none (by simp; omega), List.getD_eq_getElem?_getD, List.getElem?_eq_none hg]
theorem InvH.add {q : Nat} {sl : List S76} {sp : List Pr.S95} {fr hs vs : List Int} (h : InvH q sl sp fr hs vs) (hq : q + 1 ≤ 80) (v : Int) :
    InvH (q + 1) (addL sl fr v) (Pr.addL sp fr ⟨#[120]⟩ ⟨#[121]⟩) fr.dropLast (hs ++ [pk 1 (addI (sk sl) fr) (addG (sk sl) fr)]) (vs ++ [v]) := by
  have hl := h.len
  obtain ⟨a1, a2, a3⟩ := add_slot h.good
  have hp := pk_in1 h.good
  have hadd := add_live (kd := 1) h.good (by decide)
  have hnot := add_not_live (kd := 1) h.good (by decide)
  obtain ⟨x, hx⟩ : ∃ x, x = pk 1 (addI (sk sl) fr) (addG (sk sl) fr) := ⟨_, rfl⟩
  rw [← hx] at hp hadd hnot ⊢
  clear hx
  have hne : ∀ i, i < hs.length → hs.getD i 0 ≠ x := fun i hi e => by
    have := (h.lv i hi).2.2.1
    rw [e, hnot] at this
    exact absurd this (by decide)
  have hhl := h.hl
  refine ⟨?_, hq, ?_, ?_, h.xy.add fr, by simp [hhl], fun i hi => ?_, fun i j hi hj he => ?_, ?_, ?_⟩
  · rw [sk_addL]; exact h.good.add (by rw [sk_length]; omega)
  · rw [addL_length]; split <;> omega
  · rw [Pr.sk_addL, sk_addL, h.same]
  · rw [snoc_get, snoc_get]
    by_cases e : i = hs.length
    · rw [if_pos e, if_pos (by omega), sk_addL, addL_getD h.good, hp.2.2, if_pos rfl]
      exact ⟨hp.1, hp.2.1, hadd, rfl⟩
    · have hi2 : i < hs.length := by simp at hi; omega
      obtain ⟨b1, b2, b3, b4⟩ := h.lv i hi2
      rw [if_neg e, if_neg (by omega), sk_addL, addL_getD h.good]
      refine ⟨b1, b2, live_add h.good b3, ?_⟩
      have hu := (lvS_iff.1 b3).2.2.1
      rw [if_neg (fun e2 => by rw [e2, a2] at hu; exact absurd hu (by decide))]
      exact b4
  · rw [snoc_get, snoc_get] at he
    simp at hi hj
    by_cases e1 : i = hs.length
    · by_cases e2 : j = hs.length
      · omega
      · rw [if_pos e1, if_neg e2] at he
        exact absurd he.symm (hne j (by omega))
    · by_cases e2 : j = hs.length
      · rw [if_neg e1, if_pos e2] at he
        exact absurd he (hne i (by omega))
      · rw [if_neg e1, if_neg e2] at he
        exact h.inj i j (by omega) (by omega) he
  · have hc := h.count
    rw [addL_length, List.length_append]
    by_cases c : fr = []
    · subst c
      rw [if_pos rfl]
      simp at hc ⊢; omega
    · rw [if_neg c]
      have : 0 < fr.length := by cases fr with
        | nil => exact absurd rfl c
        | cons a t => simp
      simp; omega
  · have := h.hq; simp; omega
theorem set_get (l : List Int) (k : Nat) (x : Int) (hk : k < l.length) (i : Nat) : (l.set k x).getD i 0 = if i = k then x else l.getD i 0 := by
  by_cases e : i = k
  · subst e; rw [if_pos rfl, List.getD_eq_getElem?_getD, List.getElem?_set_self hk, Option.getD_some]
  · rw [if_neg e, List.getD_eq_getElem?_getD, List.getElem?_set_ne (fun h => e h.symm), List.getD_eq_getElem?_getD]
theorem InvH.set {q : Nat} {sl : List S76} {sp : List Pr.S95} {fr hs vs : List Int} (h : InvH q sl sp fr hs vs) (hq : q + 1 ≤ 80) (v : Int) {k : Nat} (hk : k < hs.length) :
    InvH (q + 1) (setL sl (ixn (hs.getD k 0)) v) sp fr hs (vs.set k v) := by
  obtain ⟨k1, k2, k3, k4⟩ := h.lv k hk
  have hix := (lvS_iff.1 k3).2.1
  rw [sk_length] at hix
  have hhl := h.hl
  refine ⟨by rw [sk_setL]; exact h.good, hq, by rw [setL_length]; have := h.len; omega, by rw [sk_setL]; exact h.same, h.xy, by rw [List.length_set]; exact h.hl, fun i hi => ?_, h.inj, by rw [setL_length]; exact h.count, by have := h.hq; omega⟩
  obtain ⟨b1, b2, b3, b4⟩ := h.lv i hi
  rw [sk_setL]
  refine ⟨b1, b2, b3, ?_⟩
  rw [setL_getD hix, set_get _ _ _ (by omega)]
  by_cases e : i = k
  · rw [if_pos e, e, if_pos rfl]
  · rw [if_neg e, if_neg (fun e2 => e (h.inj i k hi hk (live_one b2 k2 b3 k3 e2)))]
    exact b4
theorem swap_get (l : List Int) (k : Nat) (hk : k < l.length) (i : Nat) (hi : i < l.length - 1) : ((l.set k (l.getD (l.length - 1) 0)).take (l.length - 1)).getD i 0 = if i = k then l.getD (l.length - 1) 0 else l.getD i 0 := by
  rw [List.getD_eq_getElem?_getD, List.getElem?_take_of_lt hi, ← List.getD_eq_getElem?_getD]
  exact set_get l k _ hk i
theorem InvH.drop {q : Nat} {sl : List S76} {sp : List Pr.S95} {fr hs vs : List Int} (h : InvH q sl sp fr hs vs) (hq : q + 1 ≤ 80) {k : Nat} (hk : k < hs.length) :
    InvH (q + 1) (dropL sl (ixn (hs.getD k 0))) (Pr.dropL sp (ixn (hs.getD k 0))) (fr ++ [(ixn (hs.getD k 0) : Int)]) ((hs.set k (hs.getD (hs.length - 1) 0)).take (hs.length - 1)) ((vs.set k (vs.getD (vs.length - 1) 0)).take (vs.length - 1)) := by
  obtain ⟨k1, k2, k3, k4⟩ := h.lv k hk
  obtain ⟨_, l2, l3, _⟩ := lvS_iff.1 k3
  have l2' := l2
  rw [sk_length] at l2'
  have hhl := h.hl
  -- the place of the old list that place i of the new one holds
  have old : ∀ i, i < hs.length - 1 → ∃ m, m < hs.length ∧ m ≠ k ∧ m = (if i = k then hs.length - 1 else i) ∧ ((hs.set k (hs.getD (hs.length - 1) 0)).take (hs.length - 1)).getD i 0 = hs.getD m 0 ∧ ((vs.set k (vs.getD (vs.length - 1) 0)).take (vs.length - 1)).getD i 0 = vs.getD m 0 := fun i hi => by
    rw [swap_get hs k hk i hi, swap_get vs k (by omega) i (by omega)]
    by_cases e : i = k
    · exact ⟨hs.length - 1, by omega, by omega, by rw [if_pos e], by rw [if_pos e], by rw [if_pos e, hhl]⟩
    · exact ⟨i, by omega, e, by rw [if_neg e], by rw [if_neg e], by rw [if_neg e]⟩
  have hln : ((hs.set k (hs.getD (hs.length - 1) 0)).take (hs.length - 1)).length = hs.length - 1 := by simp
  refine ⟨?_, hq, by rw [dropL_length]; have := h.len; omega, ?_, h.xy.drop _, by simp; omega, fun i hi => ?_, fun i j hi hj he => ?_, ?_, by rw [hln]; have := h.hq; omega⟩
  · rw [sk_dropL]; exact h.good.drop l2 l3
  · rw [Pr.sk_dropL, sk_dropL, h.same]
  · rw [hln] at hi
    obtain ⟨m, m1, m2, _, m4, m5⟩ := old i hi
    rw [m4, m5]
    obtain ⟨b1, b2, b3, b4⟩ := h.lv m m1
    have hne : hs.getD m 0 ≠ hs.getD k 0 := fun e => m2 (h.inj m k m1 hk e)
    refine ⟨b1, b2, by rw [sk_dropL]; exact live_drop k2 b2 k3 b3 hne, ?_⟩
    rw [dropL_getD l2', if_neg (fun e => hne (live_one b2 k2 b3 k3 e))]
    exact b4
  · rw [hln] at hi hj
    obtain ⟨m, m1, m2, m3, m4, _⟩ := old i hi
    obtain ⟨n, n1, n2, n3, n4, _⟩ := old j hj
    rw [m4, n4] at he
    have := h.inj m n m1 n1 he
    rw [m3, n3] at this
    split at this <;> split at this <;> omega
  · have := h.count
    rw [dropL_length, hln]
    simp; omega
end Go.Proofs.Ytgcbfbdhibbpdaa.Tb
