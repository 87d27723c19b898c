/- Ranges given in two orders, in plain Lean. -/
import Derived.Test.YtccjcaomhijgdaaRCom
import Derived.Test.YtccjcaomhijgdaaRnx24
import Derived.OpenShut
set_option linter.unusedVariables false
set_option linter.unusedSimpArgs false
namespace Go.Proofs.Ytccjcaomhijgdaa.Rn
open Go.ChangeShapes Go.RowKit Go.Proofs.YtccjcaomhijgdaaW.PrintWords Go.Proofs.YtccjcaomhijgdaaW.PrintLast Go.Proofs.YtccjcaomhijgdaaW.PrintMore

def sz5 (b : List Int) (i : Nat) : Int := Int.tmod (rd b i) 5
def stp (b : List Int) : Nat → Int
  | 0 => 0
  | i + 1 => stp b i + (sz5 b i + 1)
def okB (b : List Int) : Prop := ∀ i : Nat, 0 ≤ rd b i ∧ rd b i ≤ 255
theorem sz5_bd {b : List Int} (h : okB b) (i : Nat) : 0 ≤ sz5 b i ∧ sz5 b i ≤ 4 := by
  have := h i
  unfold sz5
  rw [Int.tmod_eq_emod_of_nonneg this.1]; omega
theorem stp_bd {b : List Int} (h : okB b) (i : Nat) : 0 ≤ stp b i ∧ stp b i ≤ 5 * i := by
  induction i with
  | zero => simp [stp]
  | succ i ih => have := sz5_bd h i; simp only [stp]; omega
theorem stp_mono {b : List Int} (h : okB b) (i d : Nat) : stp b i ≤ stp b (i + d) := by
  induction d with
  | zero => exact Int.le_refl _
  | succ d ih => have := sz5_bd h (i + d); show _ ≤ stp b ((i + d) + 1); simp only [stp]; omega
theorem stp_apart {b : List Int} (h : okB b) {i j : Nat} (hij : i ≠ j) : stp b (i + 1) ≤ stp b j ∨ stp b (j + 1) ≤ stp b i := by
  rcases Nat.lt_or_gt_of_ne hij with hl | hl
  · have := stp_mono h (i + 1) (j - (i + 1)); rw [show i + 1 + (j - (i + 1)) = j from by omega] at this; exact .inl this
  · have := stp_mono h (j + 1) (i - (j + 1)); rw [show j + 1 + (i - (j + 1)) = i from by omega] at this; exact .inr this
/-- The pages of the first m places, in the order f. -/
def CovO (b : List Int) (f : Nat → Nat) (m : Nat) (q : Int) : Prop := ∃ s, s < m ∧ Int.tmod (rd b (f s)) 3 ≠ 0 ∧ stp b (f s) ≤ q ∧ q < stp b (f s + 1)
theorem covO_skip {b : List Int} {f : Nat → Nat} {m : Nat} (h : Int.tmod (rd b (f m)) 3 = 0) (q : Int) : CovO b f (m + 1) q ↔ CovO b f m q := by
  constructor
  · rintro ⟨s, hs, h1, h2⟩
    by_cases c : s = m
    · subst c; exact absurd h h1
    · exact ⟨s, by omega, h1, h2⟩
  · rintro ⟨s, hs, h1⟩; exact ⟨s, by omega, h1⟩
theorem covO_step {b : List Int} {f : Nat → Nat} {m : Nat} (h : Int.tmod (rd b (f m)) 3 ≠ 0) (q : Int) : CovO b f (m + 1) q ↔ CovO b f m q ∨ (stp b (f m) ≤ q ∧ q < stp b (f m) + (sz5 b (f m) + 1)) := by
  constructor
  · rintro ⟨s, hs, h1, h2⟩
    by_cases c : s = m
    · subst c; exact .inr h2
    · exact .inl ⟨s, by omega, h1, h2⟩
  · rintro (⟨s, hs, h1⟩ | h2)
    · exact ⟨s, by omega, h1⟩
    · exact ⟨m, by omega, h, h2⟩
theorem order_give {b : List Int} {f : Nat → Nat} {m : Nat} {x : List S36} (hb : okB b) (hr : rightF x 1000 = true) (hc : ∀ q, Cov x q ↔ CovO b f m q) (hfm : f m < 20) (hinj : ∀ s, s < m → f s ≠ f m) :
    giveOk x 1000 (stp b (f m)) (sz5 b (f m) + 1) = true := by
  have h1 := stp_bd hb (f m)
  have h2 := sz5_bd hb (f m)
  refine (giveOk_iff hr).2 ⟨h1.1, by omega, by omega, fun q a c d => ?_⟩
  obtain ⟨s, hs, _, h3, h4⟩ := (hc q).1 d
  have := stp_apart hb (hinj s hs)
  have e : stp b (f m + 1) = stp b (f m) + (sz5 b (f m) + 1) := rfl
  omega
theorem rd_set_same {xs : List Int} {i : Nat} {v : Int} (h : i < xs.length) : rd (xs.set i v) (i : Int) = v := by
  unfold rd; rw [Int.toNat_natCast, List.getD_eq_getElem?_getD, List.getElem?_set_self h]; rfl
theorem rd_set_other {xs : List Int} {i j : Nat} {v : Int} (h : i ≠ j) : rd (xs.set i v) (j : Int) = rd xs (j : Int) := by
  unfold rd; rw [Int.toNat_natCast, List.getD_eq_getElem?_getD, List.getD_eq_getElem?_getD, List.getElem?_set_ne h]
/-- The order of the second giving. -/
def ordF (L a : Nat) (s : Nat) : Nat := if L % 7 = 0 then L - 1 - s else (s * 7 + a) % L
theorem ord_lt {L a s : Nat} (h : 0 < L) : ordF L a s < L := by
  unfold ordF; split
  · omega
  · exact Nat.mod_lt _ h
theorem ord_inj {L a s t : Nat} (h0 : 0 < L) (h : L ≤ 20) (hs : s < L) (ht : t < L) (e : ordF L a s = ordF L a t) : s = t := by
  unfold ordF at e
  have hc : L = 1 ∨ L = 2 ∨ L = 3 ∨ L = 4 ∨ L = 5 ∨ L = 6 ∨ L = 7 ∨ L = 8 ∨ L = 9 ∨ L = 10 ∨ L = 11 ∨ L = 12 ∨ L = 13 ∨ L = 14 ∨ L = 15 ∨ L = 16 ∨ L = 17 ∨ L = 18 ∨ L = 19 ∨ L = 20 := by omega
  rcases hc with rfl | rfl | rfl | rfl | rfl | rfl | rfl | rfl | rfl | rfl | rfl | rfl | rfl | rfl | rfl | rfl | rfl | rfl | rfl | rfl <;> (first | (rw [if_pos (by decide), if_pos (by decide)] at e; omega) | (rw [if_neg (by decide), if_neg (by decide)] at e; omega))
theorem inv7 (c : Nat) (L a j : Nat) (h0 : 0 < L) (hj : j < L) (h : 7 * c % L = 1 % L) : (c * (j + (L - a % L)) % L * 7 + a) % L = j := by
  have e1 : (c * (j + (L - a % L)) % L * 7) % L = (j + (L - a % L)) % L := by
    rw [Nat.mod_mul_mod, show c * (j + (L - a % L)) * 7 = (7 * c) * (j + (L - a % L)) from by rw [Nat.mul_comm 7 c, Nat.mul_right_comm], Nat.mul_mod, h, ← Nat.mul_mod, Nat.one_mul]
  rw [Nat.add_mod, e1, ← Nat.add_mod]
  have ha := Nat.mod_lt a h0
  have e2 : j + (L - a % L) + a = j + L * (1 + a / L) := by
    have := Nat.div_add_mod a L
    rw [Nat.mul_add, Nat.mul_one]; omega
  rw [e2, Nat.add_mul_mod_self_left, Nat.mod_eq_of_lt hj]
theorem ord_sur {L a j : Nat} (h : L ≤ 20) (hj : j < L) : ∃ s, s < L ∧ ordF L a s = j := by
  by_cases c7 : L % 7 = 0
  · exact ⟨L - 1 - j, by omega, by unfold ordF; rw [if_pos c7]; omega⟩
  · have hc : L = 1 ∨ L = 2 ∨ L = 3 ∨ L = 4 ∨ L = 5 ∨ L = 6 ∨ L = 8 ∨ L = 9 ∨ L = 10 ∨ L = 11 ∨ L = 12 ∨ L = 13 ∨ L = 15 ∨ L = 16 ∨ L = 17 ∨ L = 18 ∨ L = 19 ∨ L = 20 := by omega
    have hinv : ∃ c : Nat, 7 * c % L = 1 % L := by
      rcases hc with rfl | rfl | rfl | rfl | rfl | rfl | rfl | rfl | rfl | rfl | rfl | rfl | rfl | rfl | rfl | rfl | rfl | rfl
      · exact ⟨0, rfl⟩
      · exact ⟨1, rfl⟩
      · exact ⟨1, rfl⟩
      · exact ⟨3, rfl⟩
      · exact ⟨3, rfl⟩
      · exact ⟨1, rfl⟩
      · exact ⟨7, rfl⟩
      · exact ⟨4, rfl⟩
      · exact ⟨3, rfl⟩
      · exact ⟨8, rfl⟩
      · exact ⟨7, rfl⟩
      · exact ⟨2, rfl⟩
      · exact ⟨13, rfl⟩
      · exact ⟨7, rfl⟩
      · exact ⟨5, rfl⟩
      · exact ⟨13, rfl⟩
      · exact ⟨11, rfl⟩
      · exact ⟨3, rfl⟩
    obtain ⟨c, hc⟩ := hinv
    exact ⟨c * (j + (L - a % L)) % L, Nat.mod_lt _ (by omega), by unfold ordF; rw [if_neg c7]; exact inv7 c L a j (by omega) hj hc⟩
theorem tmod5 {b : List Int} (hb : okB b) (i : Nat) : wrap64 (Int.tmod (rd b i) 5) = sz5 b i := by
  have := sz5_bd hb i
  show wrap64 (sz5 b i) = _
  unfold wrap64; omega
theorem step5 {b : List Int} (hb : okB b) (i : Nat) : wrap64 (sz5 b i + 1) = sz5 b i + 1 := by
  have := sz5_bd hb i
  unfold wrap64; omega
theorem wr_small {x : Int} (h : 0 ≤ x ∧ x ≤ 9223372036854775807) : wrap64 x = x := by unfold wrap64; omega
theorem ord_wr (i a : Nat) (hi : i ≤ 100) (ha : a ≤ 255) : wrap64 (wrap64 ((i : Int) * 7) + wrap64 (a : Int)) = ((i * 7 + a : Nat) : Int) := by
  rw [wr_small (x := (i : Int) * 7) (by omega), wr_small (x := (a : Int)) (by omega), wr_small (by omega)]; omega
theorem order_l2 (b : List Int) (a : Nat) (ha : a ≤ 255) (hb : okB b) (h0 : 0 < b.length) (hl : b.length ≤ 20) (x6 : List S36) (x8 : List Int) (h8 : x8.length = b.length) (hs8 : ∀ j, j < b.length → rd x8 (j : Int) = stp b j)
    (hr6 : rightF x6 1000 = true) (hl6 : x6.length ≤ 20) (hc6 : ∀ q, Cov x6 q ↔ CovO b id b.length q) (d : Nat) : ∀ (k i : Nat) (x7 : List S36), i + d = b.length → 2 * d + 100 < k → rightF x7 1000 = true → x7.length ≤ i → (∀ q, Cov x7 q ↔ CovO b (ordF b.length a) i q) →
    steadinglaw05_RunsOrder.l2 k b (a : Int) x6 x7 x8 (i : Int) = some true := by
  induction d with
  | zero =>
    intro k i x7 hi hk hr hlx hc
    obtain ⟨k, rfl⟩ : ∃ m, k = m + 1 := ⟨k - 1, by omega⟩
    simp only [steadinglaw05_RunsOrder.l2]
    obtain rfl : i = b.length := by omega
    have same : x6 = x7 := canon hr6 hr (fun q => by
      rw [hc6 q, hc q]
      constructor
      · rintro ⟨s, hs, h⟩
        obtain ⟨t, ht, e⟩ := ord_sur (a := a) hl hs
        exact ⟨t, ht, by rw [e]; exact h⟩
      · rintro ⟨s, hs, h⟩
        exact ⟨ordF b.length a s, ord_lt h0, h⟩)
    rw [if_neg (by omega), ← same, same_is x6 (by omega) k (by omega)]; rfl
  | succ d ih =>
    intro k i x7 hi hk hr hlx hc
    obtain ⟨k, rfl⟩ : ∃ m, k = m + 2 := ⟨k - 2, by omega⟩
    simp only [steadinglaw05_RunsOrder.l2]
    rw [if_pos (by omega), if_neg (by omega)]
    have hj := ord_lt (L := b.length) (a := a) (s := i) h0
    have hidx : (if (b.length : Int) % 7 = 0 then steadinglaw05_RunsOrder.j4 (k + 1) b (a : Int) x6 x7 x8 (i : Int) (wrap64 (wrap64 ((b.length : Int) - 1) - (i : Int)))
        else steadinglaw05_RunsOrder.j4 (k + 1) b (a : Int) x6 x7 x8 (i : Int) (Int.tmod (wrap64 (wrap64 ((i : Int) * 7) + wrap64 (a : Int))) (b.length : Int))) = steadinglaw05_RunsOrder.j4 (k + 1) b (a : Int) x6 x7 x8 (i : Int) ((ordF b.length a i : Nat) : Int) := by
      unfold ordF
      by_cases c : b.length % 7 = 0
      · rw [if_pos (by omega), if_pos c]; congr 1; unfold wrap64; omega
      · rw [if_neg (by omega), if_neg c]; congr 1
        rw [ord_wr i a (by omega) ha, Int.tmod_eq_emod_of_nonneg (Int.natCast_nonneg _)]; exact (Int.natCast_emod _ _).symm
    rw [hidx]
    have hinj : ∀ s, s < i → ordF b.length a s ≠ ordF b.length a i := fun s hs e => by
      have := ord_inj h0 hl (by omega) (by omega) e; omega
    simp only [steadinglaw05_RunsOrder.j4]
    rw [if_pos (by omega), if_pos (by omega)]
    by_cases c3 : Int.tmod (rd b ((ordF b.length a i : Nat) : Int)) 3 = 0
    · rw [if_pos c3, wr_succ (by omega)]
      exact ih k (i + 1) x7 (by omega) (by omega) hr (by omega) (fun q => by rw [hc q, covO_skip c3])
    · have gok := order_give hb hr hc (by omega) hinj
      obtain ⟨g1, g2, g3⟩ := give_spec hr gok
      have gl := @give_len x7 (stp b (ordF b.length a i)) (sz5 b (ordF b.length a i) + 1)
      have fx := right_fits hr (by omega) (by omega)
      rw [if_neg c3, if_pos (by omega), hs8 _ hj, tmod5 hb, step5 hb, give_is fx (by omega), if_pos gok]
      simp only [Option.bind_some, if_true]
      rw [right_is _ 1000 (fun x hx => by have := rf_mem g1 x hx; unfold i64; omega) (by unfold i64; omega) (by omega) k (by omega), g1]
      simp only [Option.bind_some, if_true]
      rw [wr_succ (by omega)]
      exact ih k (i + 1) _ (by omega) (by omega) g1 (by omega) (fun q => by rw [g2 q, hc q, covO_step c3])
theorem order_l1 (b : List Int) (a : Nat) (ha : a ≤ 255) (hb : okB b) (h0 : 0 < b.length) (hl : b.length ≤ 20) (x8 : List Int) (h8 : x8.length = b.length) (hs8 : ∀ j, j < b.length → rd x8 (j : Int) = stp b j)
    (d : Nat) : ∀ (k i : Nat) (x6 : List S36), i + d = b.length → d + 200 < k → rightF x6 1000 = true → x6.length ≤ i → (∀ q, Cov x6 q ↔ CovO b id i q) →
    steadinglaw05_RunsOrder.l1 k b (a : Int) x6 x8 (i : Int) = some true := by
  induction d with
  | zero =>
    intro k i x6 hi hk hr hlx hc
    obtain ⟨k, rfl⟩ : ∃ m, k = m + 1 := ⟨k - 1, by omega⟩
    simp only [steadinglaw05_RunsOrder.l1]
    obtain rfl : i = b.length := by omega
    rw [if_neg (by omega)]
    exact order_l2 b a ha hb h0 hl x6 x8 h8 hs8 hr (by omega) hc b.length k 0 [] (by omega) (by omega) rfl (Nat.le_refl _) (fun q => ⟨fun h => absurd h (cov_nil q), fun ⟨s, hs, _⟩ => absurd hs (by omega)⟩)
  | succ d ih =>
    intro k i x6 hi hk hr hlx hc
    obtain ⟨k, rfl⟩ : ∃ m, k = m + 1 := ⟨k - 1, by omega⟩
    simp only [steadinglaw05_RunsOrder.l1]
    rw [if_pos (by omega), if_pos (by omega)]
    by_cases c3 : Int.tmod (rd b (i : Int)) 3 = 0
    · rw [if_pos c3, wr_succ (by omega)]
      exact ih k (i + 1) x6 (by omega) (by omega) hr (by omega) (fun q => by rw [hc q, covO_skip (f := id) c3])
    · have gok : giveOk x6 1000 (stp b i) (sz5 b i + 1) = true := order_give (f := id) hb hr hc (show i < 20 by omega) (fun s hs e => absurd (show s = i from e) (by omega))
      obtain ⟨g1, g2, g3⟩ := give_spec hr gok
      have gl := @give_len x6 (stp b i) (sz5 b i + 1)
      have fx := right_fits hr (by omega) (by omega)
      rw [if_neg c3, if_pos (by omega), hs8 _ (by omega), tmod5 hb, step5 hb, give_is fx (by omega), if_pos gok]
      simp only [Option.bind_some, if_true]
      rw [wr_succ (by omega)]
      exact ih k (i + 1) _ (by omega) (by omega) g1 (by omega) (fun q => by rw [g2 q, hc q, covO_step (f := id) c3]; rfl)
theorem order_l0 (b : List Int) (a : Nat) (ha : a ≤ 255) (hb : okB b) (h0 : 0 < b.length) (hl : b.length ≤ 20) (d : Nat) : ∀ (k i : Nat) (x8 : List Int), 1 ≤ i → i + d = b.length → d + 400 < k → x8.length = b.length → (∀ j, j < i → rd x8 (j : Int) = stp b j) →
    steadinglaw05_RunsOrder.l0 k b (a : Int) x8 (i : Int) = some true := by
  induction d with
  | zero =>
    intro k i x8 h1 hi hk h8 hs
    obtain ⟨k, rfl⟩ : ∃ m, k = m + 1 := ⟨k - 1, by omega⟩
    simp only [steadinglaw05_RunsOrder.l0]
    rw [if_neg (by omega)]
    exact order_l1 b a ha hb h0 hl x8 h8 (fun j hj => hs j (by omega)) b.length k 0 [] (by omega) (by omega) rfl (Nat.le_refl _) (fun q => ⟨fun h => absurd h (cov_nil q), fun ⟨s, hs, _⟩ => absurd hs (by omega)⟩)
  | succ d ih =>
    intro k i x8 h1 hi hk h8 hs
    obtain ⟨k, rfl⟩ : ∃ m, k = m + 1 := ⟨k - 1, by omega⟩
    obtain ⟨i, rfl⟩ : ∃ m, i = m + 1 := ⟨i - 1, by omega⟩
    have e1 : wrap64 (((i + 1 : Nat) : Int) - 1) = (i : Int) := by unfold wrap64; omega
    have hsb := stp_bd hb i
    have hzb := sz5_bd hb i
    simp only [steadinglaw05_RunsOrder.l0]
    rw [e1, if_pos (by omega), if_pos (by omega), if_pos (by omega), if_pos (by omega), if_pos (by omega), if_pos (by omega), wr_succ (by omega), tmod5 hb, hs i (by omega)]
    have e2 : wrap64 (wrap64 (stp b i + sz5 b i) + 1) = stp b (i + 1) := by simp only [stp]; unfold wrap64; omega
    rw [e2, Int.toNat_natCast]
    refine ih k (i + 1 + 1) _ (by omega) (by omega) (by omega) (by rw [List.length_set]; exact h8) (fun j hj => ?_)
    by_cases c : j = i + 1
    · subst c; exact rd_set_same (by omega)
    · rw [rd_set_other (by omega)]; exact hs j (by omega)
end Go.Proofs.Ytccjcaomhijgdaa.Rn
namespace Go.Proofs.Ytccjcaomhijgdaa
open Go.ChangeShapes Go.RowKit Go.Proofs.YtccjcaomhijgdaaW.PrintWords Rn
theorem Pure.RunsOrder : Rn.steadinglaw05_RunsOrder.Pure := by
  intro b a hm _ hwb hwa
  have hab := bounds_u8 hwa
  have hb : okB b := fun i => by
    unfold rd
    rw [Int.toNat_natCast, List.getD_eq_getElem?_getD]
    by_cases h : i < b.length
    · rw [List.getElem?_eq_getElem h]; exact bounds_u8 (hwb _ (List.getElem_mem h))
    · rw [List.getElem?_eq_none (by omega)]; exact ⟨by decide, by decide⟩
  obtain ⟨a, rfl⟩ : ∃ n : Nat, a = n := ⟨a.toNat, by omega⟩
  refine ⟨1002, ?_⟩
  unfold steadinglaw05_RunsOrder.f
  rw [awake_is _ (by omega)]
  simp only [Option.bind_some, if_true]
  by_cases c1 : (b.length : Int) > 20
  · rw [if_pos c1]; simp [steadinglaw05_RunsOrder.j0]
  · rw [if_neg c1]
    simp only [steadinglaw05_RunsOrder.j0]
    by_cases c2 : b.length = 0
    · rw [if_pos (by simpa using c2)]
    · rw [if_neg (by simpa using c2), if_pos (by omega), if_pos (by omega), Int.toNat_natCast]
      have := order_l0 b a (by omega) hb (by omega) (by omega) (b.length - 1) 1001 1 (List.replicate b.length 0) (Nat.le_refl _) (by omega) (by omega) (by simp) (fun j hj => by
        obtain rfl : j = 0 := by omega
        unfold rd; simp [stp, List.getD_eq_getElem?_getD, List.getElem?_replicate, Nat.pos_of_ne_zero c2])
      simpa using this
end Go.Proofs.Ytccjcaomhijgdaa
