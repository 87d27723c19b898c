/- A table's slots, plainly: which are used, their generations, which are free; which handle is live. -/
import Derived.Test.YtgcbfbdhibbpdaaHPlain
set_option linter.unusedVariables false
namespace Go.Proofs.Ytgcbfbdhibbpdaa.Tb
/-- The slot that a handle names. -/
def ixn (hd : Int) : Nat := (hd % 4294967296).toNat
/-- Is a handle live? -/
def lvS (kd : Int) (s : List (Bool × Int)) (hd : Int) : Bool := decide (4611686018427387904 ≤ hd) && (decide (ixn hd < s.length) && ((s.getD (ixn hd) (false, 0)).1 && (decide (hd / 4611686018427387904 = kd) && decide (hd / 4294967296 % 1073741824 = (s.getD (ixn hd) (false, 0)).2))))
/-- The handles of the slots from i on. -/
def hS (kd : Int) : List (Bool × Int) → Int → List Int
  | [], _ => []
  | x :: t, i => if x.1 = true then pk kd i x.2 :: hS kd t (i + 1) else hS kd t (i + 1)
/-- The slot that the next thing comes into, and its generation. -/
def addI (s : List (Bool × Int)) (fr : List Int) : Nat := if fr = [] then s.length else (fr.getLastD 0).toNat
def addG (s : List (Bool × Int)) (fr : List Int) : Int := if fr = [] then 0 else (s.getD (addI s fr) (false, 0)).2
def addS (s : List (Bool × Int)) (fr : List Int) : List (Bool × Int) := if fr = [] then s ++ [(true, 0)] else s.set (addI s fr) (true, addG s fr)
def dropS (s : List (Bool × Int)) (i : Nat) : List (Bool × Int) := s.set i (false, nx (s.getD i (false, 0)).2)
theorem addI_nil (s : List (Bool × Int)) : addI s [] = s.length := rfl
theorem addG_nil (s : List (Bool × Int)) : addG s [] = 0 := rfl
theorem addI_snoc (s : List (Bool × Int)) (f : List Int) (i : Nat) : addI s (f ++ [(i : Int)]) = i := by
  unfold addI
  rw [if_neg (by simp)]
  simp
/-- A table that few things were done to. -/
structure Good (s : List (Bool × Int)) (fr : List Int) : Prop where
  gen : ∀ x ∈ s, 0 ≤ x.2 ∧ x.2 < 1073741824
  free : ∀ f ∈ fr, ∃ i : Nat, f = i ∧ i < s.length ∧ (s.getD i (false, 0)).1 = false
  nodup : fr.Nodup
  used : ∀ i : Nat, i < s.length → (s.getD i (false, 0)).1 = false → (i : Int) ∈ fr
  len : s.length ≤ 200
theorem Good.genAt {s : List (Bool × Int)} {fr : List Int} (h : Good s fr) (i : Nat) : 0 ≤ (s.getD i (false, 0)).2 ∧ (s.getD i (false, 0)).2 < 1073741824 := by
  rw [List.getD_eq_getElem?_getD]
  cases hx : s[i]? with
  | none => exact ⟨by decide, by decide⟩
  | some x => exact h.gen x (List.mem_of_getElem? hx)
theorem Good.last {s : List (Bool × Int)} {fr : List Int} (h : Good s fr) (hn : fr ≠ []) : ∃ (f : List Int) (i : Nat), fr = f ++ [(i : Int)] ∧ i < s.length ∧ (s.getD i (false, 0)).1 = false := by
  obtain ⟨f, x, rfl⟩ := List.eq_nil_or_concat fr |>.resolve_left hn
  obtain ⟨i, rfl, h1, h2⟩ := h.free x (by simp)
  exact ⟨f, i, by simp, h1, h2⟩
theorem nodup_bound : ∀ (n : Nat) (l : List Int), l.Nodup → (∀ x ∈ l, ∃ i : Nat, x = i ∧ i < n) → l.length ≤ n
  | 0, l, _, h => by
    cases l with
    | nil => simp
    | cons a t => obtain ⟨i, _, hi⟩ := h a (by simp); omega
  | n + 1, l, hd, h => by
    by_cases c : (n : Int) ∈ l
    · have h1 := nodup_bound n (l.erase n) (hd.erase _) (fun x hx => by
        obtain ⟨i, rfl, hi⟩ := h x (List.mem_of_mem_erase hx)
        refine ⟨i, rfl, ?_⟩
        have hne : (i : Int) ≠ n := by
          rintro e
          rw [e] at hx
          exact (List.Nodup.not_mem_erase hd) hx
        omega)
      rw [List.length_erase_of_mem c] at h1
      omega
    · have h1 := nodup_bound n l hd (fun x hx => by
        obtain ⟨i, rfl, hi⟩ := h x hx
        refine ⟨i, rfl, ?_⟩
        have hne : (i : Int) ≠ n := by rintro e; rw [e] at hx; exact c hx
        omega)
      omega
theorem Good.flen' {s : List (Bool × Int)} {fr : List Int} (h : Good s fr) : fr.length ≤ s.length := nodup_bound _ _ h.nodup (fun x hx => by obtain ⟨i, e, hi, _⟩ := h.free x hx; exact ⟨i, e, hi⟩)
theorem Good.flen {s : List (Bool × Int)} {fr : List Int} (h : Good s fr) : fr.length ≤ 200 := Nat.le_trans h.flen' h.len
theorem Good.nil : Good [] [] := ⟨by simp, by simp, by simp, by simp, by simp⟩
theorem getD_set_eq {s : List (Bool × Int)} {i : Nat} (hi : i < s.length) (x : Bool × Int) : (s.set i x).getD i (false, 0) = x := by rw [List.getD_eq_getElem?_getD, List.getElem?_set_self hi]; rfl
theorem getD_set_ne {s : List (Bool × Int)} {i j : Nat} (h : i ≠ j) (x : Bool × Int) : (s.set i x).getD j (false, 0) = s.getD j (false, 0) := by rw [List.getD_eq_getElem?_getD, List.getElem?_set_ne h, List.getD_eq_getElem?_getD]
theorem nx_range {g : Int} (h : 0 ≤ g ∧ g < 1073741824) : 0 ≤ nx g ∧ nx g < 1073741824 := by unfold nx; split <;> omega
theorem Good.add {s : List (Bool × Int)} {fr : List Int} (h : Good s fr) (hl : s.length < 200) : Good (addS s fr) fr.dropLast := by
  by_cases c : fr = []
  · subst c
    unfold addS
    rw [if_pos rfl]
    refine ⟨fun x hx => ?_, by simp, by simp, fun i hi hu => ?_, by simp; omega⟩
    · rcases List.mem_append.1 hx with hx | hx
      · exact h.gen x hx
      · rw [List.mem_singleton.1 hx]; exact ⟨by decide, by decide⟩
    · exfalso
      rcases Nat.lt_or_ge i s.length with hlt | hge
      · rw [List.getD_eq_getElem?_getD, List.getElem?_append_left hlt, ← List.getD_eq_getElem?_getD] at hu
        have := h.used i hlt hu
        simp at this
      · have : i = s.length := by simp at hi; omega
        subst this
        rw [List.getD_eq_getElem?_getD, List.getElem?_append_right (Nat.le_refl _)] at hu
        simp at hu
  · obtain ⟨f, i, rfl, hi, hu⟩ := h.last c
    have hnd := h.nodup
    rw [List.nodup_append] at hnd
    have hnot : ∀ x ∈ f, x ≠ (i : Int) := fun x hx => hnd.2.2 x hx _ (by simp)
    unfold addS
    rw [if_neg c, addI_snoc, List.dropLast_concat]
    have hg : addG s (f ++ [(i : Int)]) = (s.getD i (false, 0)).2 := by unfold addG; rw [if_neg c, addI_snoc]
    rw [hg]
    refine ⟨fun x hx => ?_, fun x hx => ?_, hnd.1, fun k hk hku => ?_, by simp; exact h.len⟩
    · rcases List.mem_or_eq_of_mem_set hx with hx | rfl
      · exact h.gen x hx
      · exact h.genAt i
    · obtain ⟨k, rfl, hk, hku⟩ := h.free x (by simp [hx])
      refine ⟨k, rfl, by simpa using hk, ?_⟩
      rw [getD_set_ne (fun e => hnot _ hx (by rw [e]))]
      exact hku
    · rw [List.length_set] at hk
      by_cases e : i = k
      · subst e
        rw [getD_set_eq hi] at hku
        exact absurd hku (by simp)
      · rw [getD_set_ne e] at hku
        have := h.used k hk hku
        rcases List.mem_append.1 this with h1 | h1
        · exact h1
        · simp at h1; omega
theorem lvS_iff {kd : Int} {s : List (Bool × Int)} {hd : Int} : lvS kd s hd = true ↔ 4611686018427387904 ≤ hd ∧ ixn hd < s.length ∧ (s.getD (ixn hd) (false, 0)).1 = true ∧ hd / 4611686018427387904 = kd ∧ hd / 4294967296 % 1073741824 = (s.getD (ixn hd) (false, 0)).2 := by
  unfold lvS
  simp only [Bool.and_eq_true, decide_eq_true_eq]
theorem Good.drop {s : List (Bool × Int)} {fr : List Int} (h : Good s fr) {i : Nat} (hi : i < s.length) (hu : (s.getD i (false, 0)).1 = true) : Good (dropS s i) (fr ++ [(i : Int)]) := by
  have hnot : ∀ x ∈ fr, x ≠ (i : Int) := by
    rintro x hx rfl
    obtain ⟨k, hk, _, hku⟩ := h.free _ hx
    have : i = k := by omega
    subst this
    rw [hu] at hku
    exact absurd hku (by decide)
  unfold dropS
  refine ⟨fun x hx => ?_, fun x hx => ?_, ?_, fun k hk hku => ?_, by simp; exact h.len⟩
  · rcases List.mem_or_eq_of_mem_set hx with hx | rfl
    · exact h.gen x hx
    · exact nx_range (h.genAt i)
  · rcases List.mem_append.1 hx with hx | hx
    · obtain ⟨k, rfl, hk, hku⟩ := h.free x hx
      refine ⟨k, rfl, by simpa using hk, ?_⟩
      rw [getD_set_ne (fun e => hnot _ hx (by rw [e]))]
      exact hku
    · rw [List.mem_singleton.1 hx]
      exact ⟨i, rfl, by simpa using hi, by rw [getD_set_eq hi]⟩
  · rw [List.nodup_append]
    exact ⟨h.nodup, by simp, fun x hx y hy => by rw [List.mem_singleton.1 hy]; exact hnot x hx⟩
  · rw [List.length_set] at hk
    by_cases e : i = k
    · subst e; simp
    · rw [getD_set_ne e] at hku
      exact List.mem_append_left _ (h.used k hk hku)
/-! ### a handle's parts -/
theorem pk_parts {k g : Int} {i : Nat} (hk : 1 ≤ k ∧ k ≤ 3) (hi : i < 4294967296) (hg : 0 ≤ g ∧ g < 1073741824) : 4611686018427387904 ≤ pk k i g ∧ pk k i g < 18446744073709551616 ∧ ixn (pk k i g) = i ∧ pk k i g / 4611686018427387904 = k ∧ pk k i g / 4294967296 % 1073741824 = g := by
  unfold pk ixn
  rw [if_pos (by omega)]
  refine ⟨by omega, by omega, by omega, by omega, by omega⟩
theorem pk_back {hd : Int} (h0 : 4611686018427387904 ≤ hd) (h1 : hd < 18446744073709551616) : pk (hd / 4611686018427387904) (ixn hd) (hd / 4294967296 % 1073741824) = hd := by
  unfold pk ixn
  rw [if_pos (by omega)]
  omega
/-- A live handle is its slot's. -/
theorem live_pk {kd : Int} {s : List (Bool × Int)} {hd : Int} (h1 : hd < 18446744073709551616) (h : lvS kd s hd = true) : hd = pk kd (ixn hd) (s.getD (ixn hd) (false, 0)).2 := by
  obtain ⟨a, b, c, d, e⟩ := lvS_iff.1 h
  rw [← d, ← e]
  exact (pk_back a h1).symm
end Go.Proofs.Ytgcbfbdhibbpdaa.Tb
