/- The number that the document gives a handle is the one that the program gives it. -/
import Derived.Test.YtabmmdpioennfaaRPure2
import Derived.Test.YtabmmdpioennfaaRex8
set_option linter.unusedVariables false
set_option linter.unusedSimpArgs false
namespace Go.Proofs.Ytabmmdpioennfaa.Re
open Go.RowKit Go.Proofs.YtabmmdpioennfaaW.PrintWords Go.Proofs.YtabmmdpioennfaaW.PrintLast Go.Proofs.YtabmmdpioennfaaW.PrintMore
def EvI (g : Nat → Option Int) (v : Int) : Prop := ∃ K, ∀ k, K ≤ k → g k = some v
def hrr (l : List S45) (i : Nat) : Int := (rd_T45 l (i : Int)).f1
theorem num_l1 {w : List S45} {i j : Nat} {n : Int} (hi : i < w.length) (hl : w.length ≤ 1000) (hji : j ≤ i) (b : Bool) (v : Int) (Hb : EvI (fun k => steadingref21_Number.l1 k w (i : Int) n (j : Int) b (j : Int)) v) (d : Nat) :
    ∀ (m : Nat) (fl : Bool), m + d = j → (b = true ↔ fl = true ∧ ∀ m' : Nat, m ≤ m' → m' < j → hrr w m' ≠ hrr w j) → EvI (fun k => steadingref21_Number.l1 k w (i : Int) n (j : Int) fl (m : Int)) v := by
  induction d with
  | zero =>
    intro m fl hm hb
    obtain rfl : m = j := by omega
    have e : fl = b := by
      rw [Bool.eq_iff_iff, hb]
      exact ⟨fun h => ⟨h, fun m' h1 h2 => by omega⟩, fun h => h.1⟩
    rw [e]; exact Hb
  | succ d ih =>
    intro m fl hm hb
    cases fl with
    | true =>
      have hb2 : b = true ↔ (hrr w m != hrr w j) = true ∧ ∀ m' : Nat, m + 1 ≤ m' → m' < j → hrr w m' ≠ hrr w j := by
        rw [hb, bne_iff_ne]
        constructor
        · rintro ⟨_, h⟩
          exact ⟨h m (Nat.le_refl _) (by omega), fun m' h1 h2 => h m' (by omega) h2⟩
        · rintro ⟨h1, h2⟩
          refine ⟨rfl, fun m' h3 h4 => ?_⟩
          rcases Nat.lt_or_ge m m' with h5 | h5
          · exact h2 m' h5 h4
          · obtain rfl : m' = m := by omega
            exact h1
      obtain ⟨K, hK⟩ := ih (m + 1) _ (by omega) hb2
      refine ⟨K + 1, fun k hk => ?_⟩
      obtain ⟨k, rfl⟩ : ∃ q, k = q + 1 := ⟨k - 1, by omega⟩
      simp only [steadingref21_Number.l1]
      rw [if_pos (by omega), if_pos True.intro, if_pos (by omega), if_pos (by omega), if_pos (by omega), if_pos (by omega), show wrap64 ((m : Int) + 1) = ((m + 1 : Nat) : Int) by unfold wrap64; omega]
      exact hK k (by omega)
    | false =>
      have hb2 : b = true ↔ false = true ∧ ∀ m' : Nat, m + 1 ≤ m' → m' < j → hrr w m' ≠ hrr w j := by
        rw [hb]
        exact ⟨fun h => absurd h.1 (by decide), fun h => absurd h.1 (by decide)⟩
      obtain ⟨K, hK⟩ := ih (m + 1) _ (by omega) hb2
      refine ⟨K + 1, fun k hk => ?_⟩
      obtain ⟨k, rfl⟩ : ∃ q, k = q + 1 := ⟨k - 1, by omega⟩
      simp only [steadingref21_Number.l1]
      rw [if_pos (by omega), if_neg (by decide), show wrap64 ((m : Int) + 1) = ((m + 1 : Nat) : Int) by unfold wrap64; omega]
      exact hK k (by omega)
theorem seen_len (h : Nat → Int) : ∀ i, (seen h i).length ≤ i
  | 0 => Nat.le_refl _
  | i + 1 => by have := seen_len h i; have := addSeen_len (seen h i) (h i); rw [seen]; omega
theorem num_l0 {w : List S45} {i : Nat} (hi : i < w.length) (hl : w.length ≤ 1000) (h0 : hrr w i ≠ 0) (d : Nat) : ∀ j, j + d = i → (∀ m, m < j → hrr w m ≠ hrr w i) → EvI (fun k => steadingref21_Number.l0 k w (i : Int) ((seen (hrr w) j).length : Int) (j : Int)) (NN (hrr w) i) := by
  have step : ∀ j, j ≤ i → (∀ m, m < j → hrr w m ≠ hrr w i) → (hrr w j ≠ hrr w i → EvI (fun k => steadingref21_Number.l0 k w (i : Int) ((seen (hrr w) (j + 1)).length : Int) ((j + 1 : Nat) : Int)) (NN (hrr w) i)) →
      EvI (fun k => steadingref21_Number.l0 k w (i : Int) ((seen (hrr w) j).length : Int) (j : Int)) (NN (hrr w) i) := by
    intro j hji hnew hnext
    have hsl := seen_len (hrr w) j
    have hsl2 := seen_len (hrr w) (j + 1)
    obtain ⟨b, hb⟩ : ∃ b : Bool, b = true ↔ (hrr w j != 0) = true ∧ ∀ m' : Nat, 0 ≤ m' → m' < j → hrr w m' ≠ hrr w j := by
      by_cases c : (hrr w j != 0) = true ∧ ∀ m' : Nat, 0 ≤ m' → m' < j → hrr w m' ≠ hrr w j
      · exact ⟨true, ⟨fun _ => c, fun _ => rfl⟩⟩
      · exact ⟨false, ⟨fun h => by simp at h, fun h => absurd h c⟩⟩
    have hlen : ((seen (hrr w) (j + 1)).length : Int) = ((seen (hrr w) j).length : Int) + if b = true then 1 else 0 := by
      rw [seen]
      unfold addSeen
      by_cases c : b = true
      · obtain ⟨c0, c1⟩ := hb.1 c
        rw [bne_iff_ne] at c0
        rw [if_neg, if_pos c]
        · simp
        · rintro (h1 | h1)
          · exact c0 h1
          · obtain ⟨_, m, hm, e⟩ := mem_seen.1 h1
            exact c1 m (Nat.zero_le _) hm e
      · rw [if_neg c, if_pos]
        · simp
        · by_cases c0 : hrr w j = 0
          · exact .inl c0
          · right
            rw [mem_seen]
            refine ⟨c0, ?_⟩
            by_cases c1 : ∃ m, m < j ∧ hrr w m = hrr w j
            · exact c1
            · exact absurd (hb.2 ⟨bne_iff_ne.2 c0, fun m _ hm e => c1 ⟨m, hm, e⟩⟩) c
    have Hb : EvI (fun k => steadingref21_Number.l1 k w (i : Int) ((seen (hrr w) j).length : Int) (j : Int) b (j : Int)) (NN (hrr w) i) := by
      by_cases e : hrr w j = hrr w i
      · have hnot : hrr w j ∉ seen (hrr w) j := fun h1 => by
          obtain ⟨_, m, hm, e2⟩ := mem_seen.1 h1
          exact hnew m hm (e2.trans e)
        have hbt : b = true := hb.2 ⟨bne_iff_ne.2 (by rw [e]; exact h0), fun m _ hm e2 => hnew m hm (e2.trans e)⟩
        have hv : NN (hrr w) i = ((seen (hrr w) j).length : Int) + 1 := by
          rw [← NN_eq.2 e]
          unfold NN numOf
          rw [if_neg (by rw [e]; exact h0), List.idxOf_eq_length hnot]
        refine ⟨1, fun k hk => ?_⟩
        obtain ⟨k, rfl⟩ : ∃ q, k = q + 1 := ⟨k - 1, by omega⟩
        subst hbt
        unfold hrr at e
        simp only [steadingref21_Number.l1]
        rw [if_neg (by omega), if_pos True.intro, if_pos (by omega), if_pos (by omega), if_pos (by omega), if_pos (by omega), if_pos e, hv, IntKind.wrap_u64]
        congr 1; omega
      · obtain ⟨K, hK⟩ := hnext e
        refine ⟨K + 1, fun k hk => ?_⟩
        obtain ⟨k, rfl⟩ : ∃ q, k = q + 1 := ⟨k - 1, by omega⟩
        have hk2 := hK k (by omega)
        simp only at hk2
        rw [hlen] at hk2
        have e2 : ¬ (rd_T45 w (j : Int)).f1 = (rd_T45 w (i : Int)).f1 := e
        simp only [steadingref21_Number.l1]
        cases b with
        | true =>
          rw [if_neg (by omega), if_pos rfl, if_pos (by omega), if_pos (by omega), if_pos (by omega), if_pos (by omega), if_neg e2, show wrap64 ((j : Int) + 1) = ((j + 1 : Nat) : Int) by unfold wrap64; omega, IntKind.wrap_u64]
          rw [if_pos rfl] at hk2
          rw [show (((seen (hrr w) j).length : Int) + 1) % 18446744073709551616 = ((seen (hrr w) j).length : Int) + 1 by omega]
          exact hk2
        | false =>
          rw [if_neg (by omega), if_neg (by decide), if_pos (by omega), if_pos (by omega), if_pos (by omega), if_pos (by omega), if_neg e2, show wrap64 ((j : Int) + 1) = ((j + 1 : Nat) : Int) by unfold wrap64; omega]
          rw [if_neg (by decide), Int.add_zero] at hk2
          exact hk2
    obtain ⟨K, hK⟩ := num_l1 hi hl hji b _ Hb j 0 _ (by omega) hb
    refine ⟨K + 2, fun k hk => ?_⟩
    obtain ⟨k, rfl⟩ : ∃ q, k = q + 1 := ⟨k - 1, by omega⟩
    simp only [steadingref21_Number.l0]
    rw [if_pos (by omega), if_pos (by omega), if_pos (by omega)]
    obtain ⟨k, rfl⟩ : ∃ q, k = q + 1 := ⟨k - 1, by omega⟩
    simp only [steadingref21_Number.j1]
    have h0' : (rd_T45 w (i : Int)).f1 ≠ 0 := h0
    rw [if_pos (bne_iff_ne.2 h0'), if_pos (by omega), if_pos (by omega)]
    exact hK k (by omega)
  induction d with
  | zero =>
    intro j hj hnew
    obtain rfl : j = i := by omega
    exact step j (Nat.le_refl _) hnew (fun h => absurd rfl h)
  | succ d ih =>
    intro j hj hnew
    refine step j (by omega) hnew (fun h => ih (j + 1) (by omega) (fun m hm => ?_))
    rcases Nat.lt_or_ge m j with h1 | h1
    · exact hnew m h1
    · obtain rfl : m = j := by omega
      exact h
theorem number_ev {w : List S45} {i : Nat} (hi : i < w.length) (hl : w.length ≤ 1000) : EvI (fun k => steadingref21_Number.f k w (i : Int)) (NN (hrr w) i) := by
  by_cases h0 : hrr w i = 0
  · refine ⟨2, fun k hk => ?_⟩
    obtain ⟨k, rfl⟩ : ∃ q, k = q + 1 := ⟨k - 1, by omega⟩
    show steadingref21_Number.l0 (k + 1) w (i : Int) 0 0 = _
    simp only [steadingref21_Number.l0]
    rw [if_pos (by omega), if_pos (by omega), if_pos (by omega)]
    obtain ⟨k, rfl⟩ : ∃ q, k = q + 1 := ⟨k - 1, by omega⟩
    simp only [steadingref21_Number.j1]
    rw [if_neg (by rw [bne_iff_ne]; exact fun h => h h0), NN_zero.2 h0]
  · exact num_l0 hi hl h0 i 0 (by omega) (fun m hm => by omega)
theorem number_model {l : List S43} {i : Nat} (hi : i < l.length) (hl : l.length ≤ 1000) : EvI (fun k => steadingref21_Number.f k (l.map toR) (i : Int)) (NN (hd l) i) := by
  have h := number_ev (w := l.map toR) (i := i) (by rw [List.length_map]; exact hi) (by rw [List.length_map]; exact hl)
  have e : NN (hrr (l.map toR)) i = NN (hd l) i :=
    (pat_iff (h := hrr (l.map toR)) (g := hd l) (n := i + 1)).2 (Pat.congr (Pat.refl (hd l) (i + 1)) (fun j hj => by unfold hrr hd; rw [rd45_map (by omega)]; rfl) (fun j hj => rfl)) i (by omega)
  rw [← e]; exact h
end Go.Proofs.Ytabmmdpioennfaa.Re
