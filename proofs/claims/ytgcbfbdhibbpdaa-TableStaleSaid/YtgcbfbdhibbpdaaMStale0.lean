/- TableStale, plainly: what holds behind each step of the script. -/
import Derived.Test.YtgcbfbdhibbpdaaSk2
import Derived.Test.YtgcbfbdhibbpdaaStAll
set_option linter.unusedVariables false
namespace Go.Proofs.Ytgcbfbdhibbpdaa.Tb.St
open Go.RowKit Go.Proofs.YtgcbfbdhibbpdaaW.PrintWords
/-- The string "x". -/
def sx : ByteArray := ⟨#[120]⟩
structure Inv (q : Nat) (sl : List S85) (fr : List Int) (live stale : List Int) : Prop where
  good : Good (sk sl) fr
  q80 : q ≤ 80
  gens : ∀ i : Nat, ((sk sl).getD i (false, 0)).2 ≤ q
  len : sl.length ≤ q
  val : ∀ i : Nat, (sl.getD i z85).f1 = true → (sl.getD i z85).f0 = sx
  nodup : live.Nodup
  lv : ∀ h ∈ live, 0 ≤ h ∧ h < 18446744073709551616 ∧ lvS 3 (sk sl) h = true
  count : (sl.length : Int) - (fr.length : Int) = live.length
  st : ∀ h ∈ stale, 4611686018427387904 ≤ h ∧ h < 18446744073709551616 ∧ ixn h < sl.length ∧ h / 4294967296 % 1073741824 < ((sk sl).getD (ixn h) (false, 0)).2
  llen : live.length ≤ q
  slen : stale.length ≤ q
theorem Inv.start : Inv 0 [] [] [] [] :=
  ⟨Good.nil, by omega, fun i => by simp [sk], by simp, fun i h => by simp [z85] at h, by simp, by simp, by simp, by simp, by simp, by simp⟩
theorem Inv.not_live {q : Nat} {sl : List S85} {fr live stale : List Int} (h : Inv q sl fr live stale) {x : Int} (hx : x ∈ stale) : 0 ≤ x ∧ x < 18446744073709551616 ∧ lvS 3 (sk sl) x = false := by
  obtain ⟨h1, h2, h3, h4⟩ := h.st x hx
  refine ⟨by omega, h2, ?_⟩
  rw [Bool.eq_false_iff]
  intro hl
  obtain ⟨_, _, _, _, e⟩ := lvS_iff.1 hl
  omega
theorem Inv.val_live {q : Nat} {sl : List S85} {fr live stale : List Int} (h : Inv q sl fr live stale) {x : Int} (hl : lvS 3 (sk sl) x = true) : (sl.getD (ixn x) z85).f0 = ⟨#[120]⟩ := by
  obtain ⟨_, _, hu, _⟩ := lvS_iff.1 hl
  rw [sk_getD] at hu
  exact h.val _ hu
theorem Inv.keep {q : Nat} {sl : List S85} {fr live stale : List Int} (h : Inv q sl fr live stale) (hq : q + 1 ≤ 80) : Inv (q + 1) sl fr live stale :=
  ⟨h.good, hq, fun i => by have := h.gens i; omega, by have := h.len; omega, h.val, h.nodup, h.lv, h.count, h.st, by have := h.llen; omega, by have := h.slen; omega⟩
theorem addL_getD {sl : List S85} {fr : List Int} (h : Good (sk sl) fr) (v : ByteArray) (i : Nat) : (addL sl fr v).getD i z85 = if i = addI (sk sl) fr then ⟨v, true, addG (sk sl) fr⟩ else sl.getD i z85 := by
  by_cases c : fr = []
  · subst c
    rw [addI_nil, addG_nil, sk_length]
    unfold addL
    rw [if_pos rfl, List.getD_eq_getElem?_getD]
    by_cases e : i = sl.length
    · rw [if_pos e, e, List.getElem?_append_right (Nat.le_refl _)]; simp
    · rw [if_neg e]
      rcases Nat.lt_or_ge i sl.length with hl | hg
      · rw [List.getElem?_append_left hl, List.getD_eq_getElem?_getD]
      · rw [List.getElem?_eq_none (by simp; omega), List.getD_eq_getElem?_getD, List.getElem?_eq_none hg]
  · obtain ⟨f, k, rfl, hk, hu⟩ := h.last c
    rw [sk_length] at hk
    have e1 := addI_snoc (sk sl) f k
    unfold addL
    rw [if_neg c, e1]
    by_cases e : i = k
    · subst e
      rw [if_pos rfl, List.getD_eq_getElem?_getD, List.getElem?_set_self hk]; rfl
    · rw [if_neg e, List.getD_eq_getElem?_getD, List.getElem?_set_ne (fun h => e h.symm), List.getD_eq_getElem?_getD]
theorem addL_length {sl : List S85} {fr : List Int} (v : ByteArray) : (addL sl fr v).length = if fr = [] then sl.length + 1 else sl.length := by
  unfold addL
  split <;> simp
theorem pk_in {s : List (Bool × Int)} {fr : List Int} (h : Good s fr) : 0 ≤ pk 3 (addI s fr) (addG s fr) ∧ pk 3 (addI s fr) (addG s fr) < 18446744073709551616 := by
  obtain ⟨r1, r2⟩ := add_range h
  obtain ⟨p1, p2, _⟩ := pk_parts (k := 3) (by omega) r1 r2
  exact ⟨by omega, p2⟩
theorem Inv.add {q : Nat} {sl : List S85} {fr live stale : List Int} (h : Inv q sl fr live stale) (hq : q + 1 ≤ 80) : Inv (q + 1) (addL sl fr sx) fr.dropLast (live ++ [pk 3 (addI (sk sl) fr) (addG (sk sl) fr)]) stale := by
  have hl := h.len
  obtain ⟨a1, a2, a3⟩ := add_slot h.good
  have hp := pk_in h.good
  refine ⟨?_, hq, fun i => ?_, ?_, fun i hi => ?_, ?_, fun x hx => ?_, ?_, fun x hx => ?_, ?_, by have := h.slen; omega⟩
  · rw [sk_addL]; exact h.good.add (by rw [sk_length]; omega)
  · rw [sk_addL, addS_getD h.good]
    split
    · have := h.gens (addI (sk sl) fr)
      rw [← a3] at this
      have h2 : addG (sk sl) fr ≤ ((q + 1 : Nat) : Int) := by omega
      exact h2
    · have := h.gens i; omega
  · rw [addL_length]; split <;> omega
  · rw [addL_getD h.good] at hi ⊢
    split at hi
    · rename_i e; rw [if_pos e]
    · rename_i e; rw [if_neg e]; exact h.val i hi
  · rw [List.nodup_append]
    refine ⟨h.nodup, by simp, fun x hx y hy => ?_⟩
    rw [List.mem_singleton.1 hy]
    intro e
    have h1 := (h.lv _ hx).2.2
    rw [e, add_not_live h.good (by decide)] at h1
    exact absurd h1 (by decide)
  · rw [sk_addL]
    rcases List.mem_append.1 hx with hx | hx
    · obtain ⟨b1, b2, b3⟩ := h.lv x hx
      exact ⟨b1, b2, live_add h.good b3⟩
    · rw [List.mem_singleton.1 hx]
      exact ⟨hp.1, hp.2, add_live h.good (by decide)⟩
  · have hc := h.count
    rw [addL_length, List.length_append]
    by_cases c : fr = []
    · subst c
      rw [if_pos rfl]
      simp at hc ⊢; omega
    · rw [if_neg c]
      have : 0 < fr.length := by cases fr with
        | nil => exact absurd rfl c
        | cons a t => simp
      simp; omega
  · obtain ⟨b1, b2, b3, b4⟩ := h.st x hx
    refine ⟨b1, b2, ?_, ?_⟩
    · rw [addL_length]; split <;> omega
    · rw [sk_addL, addS_getD h.good]
      split
      · rename_i e; rw [e] at b4; rw [a3]; exact b4
      · exact b4
  · have := h.llen; simp; omega
theorem Inv.drop {q : Nat} {sl : List S85} {fr a b stale : List Int} {x : Int} (h : Inv q sl fr (a ++ x :: b) stale) (hq : q + 1 ≤ 80) : Inv (q + 1) (dropL sl (ixn x)) (fr ++ [(ixn x : Int)]) (a ++ b) (stale ++ [x]) := by
  obtain ⟨x0, x1, xl⟩ := h.lv x (by simp)
  obtain ⟨l1, l2, l3, l4, l5⟩ := lvS_iff.1 xl
  have l2' := l2
  rw [sk_length] at l2'
  obtain ⟨n1, n2⟩ := nodup_mid h.nodup
  have hg := h.gens (ixn x)
  have hg0 := (h.good.genAt (ixn x)).1
  have hnx : nx ((sk sl).getD (ixn x) (false, 0)).2 = ((sk sl).getD (ixn x) (false, 0)).2 + 1 := by
    have := h.q80
    unfold nx; rw [if_pos (by omega)]
  have hlen : (dropL sl (ixn x)).length = sl.length := by unfold dropL; simp
  refine ⟨?_, hq, fun i => ?_, by rw [hlen]; have := h.len; omega, fun i hi => ?_, n1, fun y hy => ?_, ?_, fun y hy => ?_, ?_, ?_⟩
  · rw [sk_dropL]; exact h.good.drop l2 l3
  · rw [sk_dropL, dropS_getD l2]
    split
    · rw [hnx]; show _ + 1 ≤ _; omega
    · have := h.gens i; omega
  · unfold dropL at hi ⊢
    by_cases e : ixn x = i
    · subst e
      rw [List.getD_eq_getElem?_getD, List.getElem?_set_self l2'] at hi
      exact absurd (show false = true from hi) (by decide)
    · rw [List.getD_eq_getElem?_getD, List.getElem?_set_ne e, ← List.getD_eq_getElem?_getD] at hi ⊢
      exact h.val i hi
  · have hm : y ∈ a ++ x :: b := by
      rcases List.mem_append.1 hy with hy | hy
      · exact List.mem_append_left _ hy
      · exact List.mem_append_right _ (List.mem_cons_of_mem _ hy)
    obtain ⟨b1, b2, b3⟩ := h.lv y hm
    rw [sk_dropL]
    exact ⟨b1, b2, live_drop x1 b2 xl b3 (n2 y hy)⟩
  · have := h.count
    rw [hlen]
    simp at this ⊢; omega
  · rw [sk_dropL, dropS_getD l2, hlen]
    rcases List.mem_append.1 hy with hy | hy
    · obtain ⟨b1, b2, b3, b4⟩ := h.st y hy
      refine ⟨b1, b2, b3, ?_⟩
      split
      · rename_i e; rw [e] at b4; rw [hnx]; show _ < _ + 1; omega
      · exact b4
    · rw [List.mem_singleton.1 hy]
      refine ⟨l1, x1, l2', ?_⟩
      rw [if_pos rfl, hnx, l5]
      show _ < _ + 1; omega
  · have := h.llen; simp at this ⊢; omega
  · have := h.slen; simp; omega
end Go.Proofs.Ytgcbfbdhibbpdaa.Tb.St
