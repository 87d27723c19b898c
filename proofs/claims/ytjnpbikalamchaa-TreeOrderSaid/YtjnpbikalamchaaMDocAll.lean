/- The document's functions that the print has told: what they tell. -/
import Derived.Test.YtjnpbikalamchaaMOwn
import Derived.Test.YtjnpbikalamchaaRfx1
import Derived.Test.YtjnpbikalamchaaRfx3
import Derived.Test.YtjnpbikalamchaaRfx4
import Derived.Test.YtjnpbikalamchaaRfx5
import Derived.Test.YtjnpbikalamchaaRfx6
set_option linter.unusedVariables false
set_option linter.unusedSimpArgs false
namespace Go.Proofs.Ytjnpbikalamchaa.Tr
open Go.RowKit Go.Maps Go.Proofs.YtjnpbikalamchaaW.PrintWords Go.Proofs.YtjnpbikalamchaaW.PrintLast Go.Proofs.YtjnpbikalamchaaW.PrintMore
open Go.Proofs.Ytjnpbikalamchaa.Rf
def toS (l : T) : List S59 := l.map (fun e => (⟨e.1, e.2⟩ : S59))
theorem toS_len (l : T) : (toS l).length = l.length := by simp [toS]
theorem toS_at {l : T} {i : Nat} (h : i < l.length) : rd_T59 (toS l) (i : Int) = ⟨l[i].1, l[i].2⟩ := by
  unfold rd_T59 toS
  rw [Int.toNat_natCast, List.getD_eq_getElem?_getD, List.getElem?_map, List.getElem?_eq_getElem h]; rfl
theorem wrap_succ {i : Nat} (h : i < 1000000) : wrap64 ((i : Int) + 1) = ((i + 1 : Nat) : Int) := by unfold wrap64; omega
theorem has_l0 (l : T) (id : Int) (hl : l.length ≤ 1000) (d : Nat) : ∀ (k i : Nat), i + d = l.length → d < k → steadingref16_Has.l0 k (toS l) id (i : Int) = some (decide (id ≠ 0 ∧ id ∈ ids (l.drop i))) := by
  induction d with
  | zero =>
    intro k i hi hk
    obtain ⟨k, rfl⟩ : ∃ q, k = q + 1 := ⟨k - 1, by omega⟩
    simp only [steadingref16_Has.l0]
    rw [if_neg (by rw [toS_len]; omega), List.drop_eq_nil_of_le (by omega)]; simp [ids]
  | succ d ih =>
    intro k i hi hk
    obtain ⟨k, rfl⟩ : ∃ q, k = q + 1 := ⟨k - 1, by omega⟩
    have h1 : i < l.length := by omega
    simp only [steadingref16_Has.l0]
    rw [if_pos (by rw [toS_len]; omega), if_pos (by omega), toS_at h1, wrap_succ (by omega), ih k (i + 1) (by omega) (by omega), List.drop_eq_getElem_cons h1]
    simp only [ids, List.map_cons, List.mem_cons]
    by_cases c0 : id = 0
    · subst c0; simp
    · by_cases c : l[i].1 = id
      · rw [if_pos c, if_neg c0]; simp [c, c0]
      · rw [if_neg c]
        have c' : ¬ id = l[i].1 := fun e => c e.symm
        simp [c']
theorem has_f (l : T) (id : Int) (hl : l.length ≤ 1000) : steadingref16_Has.f 1001 (toS l) id = some (decide (id ≠ 0 ∧ id ∈ ids l)) := has_l0 l id hl l.length 1001 0 (by omega) (by omega)
theorem par_l0 (l : T) (id : Int) (hl : l.length ≤ 1000) (d : Nat) : ∀ (k i : Nat), i + d = l.length → d < k → steadingref16_Parent.l0 k (toS l) id (i : Int) = some (par (l.drop i) id) := by
  induction d with
  | zero =>
    intro k i hi hk
    obtain ⟨k, rfl⟩ : ∃ q, k = q + 1 := ⟨k - 1, by omega⟩
    simp only [steadingref16_Parent.l0]
    rw [if_neg (by rw [toS_len]; omega), List.drop_eq_nil_of_le (by omega)]; rfl
  | succ d ih =>
    intro k i hi hk
    obtain ⟨k, rfl⟩ : ∃ q, k = q + 1 := ⟨k - 1, by omega⟩
    have h1 : i < l.length := by omega
    simp only [steadingref16_Parent.l0]
    rw [if_pos (by rw [toS_len]; omega), if_pos (by omega), toS_at h1, wrap_succ (by omega), ih k (i + 1) (by omega) (by omega), List.drop_eq_getElem_cons h1]
    unfold par
    rw [List.find?_cons]
    by_cases c : l[i].1 = id
    · simp [c]
    · simp [c]
theorem par_f (l : T) (id : Int) (hl : l.length ≤ 1000) : steadingref16_Parent.f 1001 (toS l) id = some (par l id) := par_l0 l id hl l.length 1001 0 (by omega) (by omega)
theorem kids_l0 (l : T) (id : Int) (hl : l.length ≤ 1000) (d : Nat) : ∀ (k i : Nat) (acc : List Int), i + d = l.length → d < k → acc.length ≤ i → steadingref16_Children.l0 k (toS l) id acc (i : Int) = some (acc ++ kids (l.drop i) id) := by
  induction d with
  | zero =>
    intro k i acc hi hk ha
    obtain ⟨k, rfl⟩ : ∃ q, k = q + 1 := ⟨k - 1, by omega⟩
    simp only [steadingref16_Children.l0]
    rw [if_neg (by rw [toS_len]; omega), List.drop_eq_nil_of_le (by omega)]; simp [kids]
  | succ d ih =>
    intro k i acc hi hk ha
    obtain ⟨k, rfl⟩ : ∃ q, k = q + 1 := ⟨k - 1, by omega⟩
    have h1 : i < l.length := by omega
    simp only [steadingref16_Children.l0]
    rw [if_pos (by rw [toS_len]; omega), if_pos (by omega), toS_at h1, wrap_succ (by omega), List.drop_eq_getElem_cons h1]
    unfold kids
    rw [List.filter_cons]
    by_cases c : l[i].2 = id
    · rw [if_pos c, if_pos (by omega), ih k (i + 1) _ (by omega) (by omega) (by simp; omega)]
      simp [c, kids]
    · rw [if_neg c, ih k (i + 1) _ (by omega) (by omega) (by omega)]
      simp [c, kids]
theorem kids_f (l : T) (id : Int) (hl : l.length ≤ 1000) : steadingref16_Children.f 1001 (toS l) id = some (kids l id) := by
  have := kids_l0 l id hl l.length 1001 0 [] (by omega) (by omega) (by simp)
  rw [List.nil_append, List.drop_zero] at this
  exact this
theorem same_l0 (a b : List Int) (hab : a.length = b.length) (hl : a.length ≤ 1000) (d : Nat) : ∀ (k i : Nat), i + d = a.length → d < k → steadingref13_Same.l0 k a b (i : Int) = some (decide (a.drop i = b.drop i)) := by
  induction d with
  | zero =>
    intro k i hi hk
    obtain ⟨k, rfl⟩ : ∃ q, k = q + 1 := ⟨k - 1, by omega⟩
    simp only [steadingref13_Same.l0]
    rw [if_neg (by omega), List.drop_eq_nil_of_le (by omega), List.drop_eq_nil_of_le (by omega)]; rfl
  | succ d ih =>
    intro k i hi hk
    obtain ⟨k, rfl⟩ : ∃ q, k = q + 1 := ⟨k - 1, by omega⟩
    have h1 : i < a.length := by omega
    have h2 : i < b.length := by omega
    have r1 : rd a (i : Int) = a[i] := by unfold rd; rw [Int.toNat_natCast, List.getD_eq_getElem?_getD, List.getElem?_eq_getElem h1]; rfl
    have r2 : rd b (i : Int) = b[i] := by unfold rd; rw [Int.toNat_natCast, List.getD_eq_getElem?_getD, List.getElem?_eq_getElem h2]; rfl
    simp only [steadingref13_Same.l0]
    rw [if_pos (by omega), if_pos (by omega), if_pos (by omega), r1, r2, wrap_succ (by omega), ih k (i + 1) (by omega) (by omega)]
    have e : a.drop i = b.drop i ↔ a[i] = b[i] ∧ a.drop (i + 1) = b.drop (i + 1) := by rw [List.drop_eq_getElem_cons h1, List.drop_eq_getElem_cons h2, List.cons.injEq]
    rw [decide_eq_decide.2 e]
    by_cases c : a[i] = b[i]
    · rw [if_pos c, decide_eq_decide.2 (show (a[i] = b[i] ∧ a.drop (i + 1) = b.drop (i + 1)) ↔ a.drop (i + 1) = b.drop (i + 1) from ⟨fun h => h.2, fun h => ⟨c, h⟩⟩)]
    · rw [if_neg c, decide_eq_false (fun h => c h.1)]
theorem same_f (a b : List Int) (hl : a.length ≤ 1000) : steadingref13_Same.f 1001 a b = some (decide (a = b)) := by
  unfold steadingref13_Same.f
  by_cases c : (a.length : Int) = (b.length : Int)
  · rw [if_pos c]
    exact same_l0 a b (by omega) hl a.length 1001 0 (by omega) (by omega)
  · rw [if_neg c, decide_eq_false (fun e => c (by rw [e]))]
/-- Whether one is among the first of a list. -/
theorem with_l1 (l : T) (gone : List Int) (hl : l.length ≤ 1000) (hg : gone.length ≤ 1000) (acc : List S59) {i : Nat} (h1 : i < l.length) (hacc : acc.length ≤ i) (d : Nat) : ∀ (k j : Nat) (b : Bool), j + d = gone.length → d < k →
    steadingref16_without.l1 k (toS l) gone acc (i : Int) b (j : Int) = if (b || decide (l[i].1 ∈ gone.drop j)) = true then steadingref16_without.l0 (k - 1 - d) (toS l) gone acc ((i + 1 : Nat) : Int) else steadingref16_without.l0 (k - 1 - d) (toS l) gone (acc ++ [⟨l[i].1, l[i].2⟩]) ((i + 1 : Nat) : Int) := by
  induction d with
  | zero =>
    intro k j b hj hk
    obtain ⟨k, rfl⟩ : ∃ q, k = q + 1 := ⟨k - 1, by omega⟩
    simp only [steadingref16_without.l1]
    rw [if_neg (by omega), List.drop_eq_nil_of_le (by omega), wrap_succ (by omega)]
    cases b with
    | true => simp
    | false => simp only [Bool.false_eq_true, if_false]; rw [if_pos (by omega), if_pos (by rw [toS_len]; omega), if_pos (by omega), toS_at h1]; simp
  | succ d ih =>
    intro k j b hj hk
    obtain ⟨k, rfl⟩ : ∃ q, k = q + 1 := ⟨k - 1, by omega⟩
    have h2 : j < gone.length := by omega
    have r1 : rd gone (j : Int) = gone[j] := by unfold rd; rw [Int.toNat_natCast, List.getD_eq_getElem?_getD, List.getElem?_eq_getElem h2]; rfl
    simp only [steadingref16_without.l1]
    rw [if_pos (by omega), wrap_succ (by omega)]
    have hm : l[i].1 ∈ gone.drop j ↔ l[i].1 = gone[j] ∨ l[i].1 ∈ gone.drop (j + 1) := by rw [List.drop_eq_getElem_cons h2, List.mem_cons]
    rw [decide_eq_decide.2 hm]
    cases b with
    | true =>
      simp only [if_true]
      rw [ih k (j + 1) true (by omega) (by omega), show k + 1 - 1 - (d + 1) = k - 1 - d by omega]
      simp
    | false =>
      simp only [Bool.false_eq_true, if_false]
      rw [if_pos (by omega), if_pos (by omega), if_pos (by rw [toS_len]; omega), toS_at h1, r1, ih k (j + 1) _ (by omega) (by omega), show k + 1 - 1 - (d + 1) = k - 1 - d by omega]
      have e : (gone[j] == l[i].1 || decide (l[i].1 ∈ gone.drop (j + 1))) = (false || decide (l[i].1 = gone[j] ∨ l[i].1 ∈ gone.drop (j + 1))) := by
        by_cases c : gone[j] = l[i].1
        · rw [Bool.false_or, decide_eq_true (p := l[i].1 = gone[j] ∨ l[i].1 ∈ gone.drop (j + 1)) (.inl c.symm), c]; simp
        · have c' : ¬ l[i].1 = gone[j] := fun e => c e.symm
          rw [Bool.false_or, show (gone[j] == l[i].1) = false by simpa using c, Bool.false_or]
          exact decide_eq_decide.2 ⟨.inr, fun h => h.resolve_left c'⟩
      rw [e]
theorem with_l0 (l : T) (gone : List Int) (hl : l.length ≤ 1000) (hg : gone.length ≤ 1000) (d : Nat) : ∀ (k i : Nat) (acc : List S59), i + d = l.length → d * (gone.length + 2) < k → acc.length ≤ i → steadingref16_without.l0 k (toS l) gone acc (i : Int) = some (acc ++ toS (without (l.drop i) gone)) := by
  induction d with
  | zero =>
    intro k i acc hi hk ha
    obtain ⟨k, rfl⟩ : ∃ q, k = q + 1 := ⟨k - 1, by omega⟩
    simp only [steadingref16_without.l0]
    rw [if_neg (by rw [toS_len]; omega), List.drop_eq_nil_of_le (by omega)]; simp [without, toS]
  | succ d ih =>
    intro k i acc hi hk ha
    obtain ⟨k, rfl⟩ : ∃ q, k = q + 1 := ⟨k - 1, by omega⟩
    have h1 : i < l.length := by omega
    rw [Nat.succ_mul] at hk
    simp only [steadingref16_without.l0]
    have e0 : ((0 : Nat) : Int) = 0 := rfl
    rw [if_pos (by rw [toS_len]; omega), ← e0, with_l1 l gone hl hg acc h1 ha gone.length k 0 false (by omega) (by omega), List.drop_zero]
    have hwo : without (l.drop i) gone = if l[i].1 ∈ gone then without (l.drop (i + 1)) gone else l[i] :: without (l.drop (i + 1)) gone := by
      rw [List.drop_eq_getElem_cons h1]
      unfold without
      rw [List.filter_cons]
      by_cases c : l[i].1 ∈ gone
      · rw [if_neg (by simpa using c), if_pos c]
      · rw [if_pos (by simpa using c), if_neg c]
    rw [hwo]
    by_cases c : l[i].1 ∈ gone
    · rw [if_pos (by simp [c]), if_pos c, ih _ (i + 1) acc (by omega) (by omega) (by omega)]
    · rw [if_neg (by simp [c]), if_neg c, ih _ (i + 1) _ (by omega) (by omega) (by simp; omega)]
      unfold toS
      rw [List.map_cons, List.append_assoc]; rfl
theorem with_f (l : T) (gone : List Int) (hl : l.length ≤ 1000) (hg : gone.length ≤ 1000) : steadingref16_without.f 2000000 (toS l) gone = some (toS (without l gone)) := by
  have := with_l0 l gone hl hg l.length 2000000 0 [] (by omega) (by
    have : l.length * (gone.length + 2) ≤ 1000 * 1002 := Nat.mul_le_mul hl (by omega)
    omega) (by simp)
  rw [List.nil_append, List.drop_zero] at this
  exact this
end Go.Proofs.Ytjnpbikalamchaa.Tr
/- The document's Order, Drop, Cut, Add, walked. -/
set_option linter.unusedVariables false
set_option linter.unusedSimpArgs false
namespace Go.Proofs.Ytjnpbikalamchaa.Tr
open Go.RowKit Go.Maps Go.Proofs.YtjnpbikalamchaaW.PrintWords Go.Proofs.YtjnpbikalamchaaW.PrintLast Go.Proofs.YtjnpbikalamchaaW.PrintMore
open Go.Proofs.Ytjnpbikalamchaa.Rf
attribute [local go_sem] max2_int min2_int
set_option maxHeartbeats 1000000 in
theorem dorder_no {l : T} {A : Option Addr} {c : Nat} {w : World} (hC : Kd.C k59 w A (toS l).length (toS l)) (hc : (toS l).length ≤ c) (hl : l.length ≤ 60) {id : Int} (hi : ¬ (id ≠ 0 ∧ id ∈ ids l)) :
    Calls Try.prog 25 #[.slice A (toS l).length c, .int .u64 id] w fun e w' => e = .returned (.slice none 0 0) ∧ Below w.heap.size w w' := by
  have hh := steadingref16_Has.calls 1001 A c (toS l) id _ w hC hc (has_f l id (by omega))
  rw [decide_eq_false hi] at hh
  go_enter Try.func25, Try.ntmps25
  go_wp2_with (go_at_call 19; refine hh.mono ?_; rintro e w1 ⟨rfl, hd⟩)
  go_ret
  exact ⟨rfl, hd.below⟩
set_option maxRecDepth 10000 in
set_option maxHeartbeats 4000000 in
theorem dorder_yes {l : T} (hw : WfT l) (hl : l.length ≤ 60) : ∀ (k : Nat) {A : Option Addr} {c : Nat} {w : World} (hC : Kd.C k59 w A (toS l).length (toS l)) (hc : (toS l).length ≤ c) {id : Int} (hid : id ∈ ids l) (hD : Dp (kids l) k id),
    Calls Try.prog 25 #[.slice A (toS l).length c, .int .u64 id] w fun e w' => ∃ v, e = .returned v ∧ (Kd.int .u64).R 27 w' w.heap.size (fun k => v.ownBlock = some k) v (ordF (kids l) k id) ∧ Below w.heap.size w w' := by
  intro k
  induction k with
  | zero => intro A c w hC hc id hid hD; exact hD.elim
  | succ k ih =>
    intro A c w hC hc id hid hD
    have h0 : id ≠ 0 := fun e => hw.zero (e ▸ hid)
    have hh := steadingref16_Has.calls 1001 A c (toS l) id _ w hC hc (has_f l id (by omega))
    rw [decide_eq_true ⟨h0, hid⟩] at hh
    have HC := Aside0.mk hC
    clear hC
    go_enter Try.func25, Try.ntmps25
    go_wp2_with (first
      | (go_at_call 19; refine hh.mono ?_; rintro e w1 ⟨rfl, hd⟩; have HB1 := Aside0.mk hd.below; clear hd)
      | (go_at_call 23; refine (steadingref16_Children.calls 1001 A c (toS l) id _ w1 (Kd.C_below HC.out HB1.out) hc (kids_f l id (by omega))).mono ?_; rintro e w2 ⟨v2, rfl, hR2, hb2⟩; obtain ⟨A2, c2, rfl⟩ := Kd.R_slice hR2; have HR2 := Aside0.mk hR2; have HB2 := Aside0.mk (HB1.out.trans (hb2.mono HB1.out.size)); clear hR2 hb2))
    have hlen : ∀ x ∈ kids l id, (ordF (kids l) k x).length ≤ 61 := fun x _ => Nat.le_trans (hw.ord_len k x) (by omega)
    obtain ⟨ks, hks⟩ : ∃ ks, ks = kids l id := ⟨_, rfl⟩
    have hD' : ∀ x ∈ ks, Dp (kids l) k x := by rw [hks]; exact hD
    have hin : ∀ x ∈ ks, x ∈ ids l := by rw [hks]; exact fun x hx => kid_in hx
    have hkl : ks.length ≤ 60 := by rw [hks]; exact Nat.le_trans (kids_len l id) hl
    rw [← hks] at HR2 hlen ⊢
    have HK := Aside0.mk hks
    have hflat : ∀ q, ((ks.drop q).reverse.flatMap (ordF (kids l) k)).length ≤ 60 * 61 := by
      intro q
      have : ∀ xs : List Int, (∀ x ∈ xs, x ∈ ks) → (xs.flatMap (ordF (kids l) k)).length ≤ xs.length * 61 := by
        intro xs
        induction xs with
        | nil => simp
        | cons a r ihx => intro hx; simp only [List.flatMap_cons, List.length_append, List.length_cons, Nat.succ_mul]; have := hlen a (hx a List.mem_cons_self); have := ihx (fun x h => hx x (List.mem_cons_of_mem _ h)); omega
      have h1 := this (ks.drop q).reverse (fun x hx => List.mem_of_mem_drop (List.mem_reverse.1 hx))
      have h2 : (ks.drop q).reverse.length ≤ 60 := by simp; omega
      have := Nat.mul_le_mul_right 61 h2
      omega
    clear hks hD hlen
    have HO0 := Aside0.mk (show (Kd.int .u64).R 27 w2 w2.heap.size (fun k => (Value.slice none 0 0).ownBlock = some k) (.slice none 0 0) ((ks.drop ks.length).reverse.flatMap (ordF (kids l) k)) by rw [List.drop_length]; exact Kd.R_nil _ _ _ _ _)
    go_loopw [5, 8] (fun vo vi wr => ∃ q : Nat, q ≤ ks.length ∧ vi = .int .i64 ((q : Int) - 1) ∧ Aside0 ((Kd.int .u64).R 27 wr w2.heap.size (fun k => vo.ownBlock = some k) vo ((ks.drop q).reverse.flatMap (ordF (kids l) k))) ∧ Aside0 (Below w2.heap.size w2 wr)) (fun _ vi _ => ((intOf vi) + 1).toNat)
    case atStart => exact ⟨_, Nat.le_refl _, by rw [show wrap64 ((ks.length : Int) - 1) = (ks.length : Int) - 1 by unfold wrap64; omega], HO0, Aside0.mk (Below.refl _ _)⟩
    case round =>
      obtain ⟨q, hq, rfl, hO, hB⟩ := hrel
      obtain ⟨Ao, co, rfl⟩ := Kd.R_slice hO.out
      by_cases hlt : 0 < q
      · obtain ⟨r, rfl⟩ : ∃ r, q = r + 1 := ⟨q - 1, by omega⟩
        have hr : r < ks.length := by omega
        obtain ⟨bk, ck, he, hc2, _⟩ := row_at (Kd.R_below HR2.out (w1 := wr) (hB.out.mono (by have := HB2.out.size; omega))) hr
        injection he with he _ hcc
        subst he hcc
        have hgk : ks.getD r 0 = ks[r] := by rw [List.getD_eq_getElem?_getD, List.getElem?_eq_getElem hr]; rfl
        obtain ⟨x, hx⟩ : ∃ x, x = ks.getD r 0 := ⟨_, rfl⟩
        rw [← hx] at hc2 hgk
        have hxk : x ∈ ks := by rw [hgk]; exact List.getElem_mem hr
        have hst : (ks.drop r).reverse.flatMap (ordF (kids l) k) = (ks.drop (r + 1)).reverse.flatMap (ordF (kids l) k) ++ ordF (kids l) k x := by
          rw [List.drop_eq_getElem_cons hr, List.reverse_cons, List.flatMap_append, hgk]; simp
        have hfr := hflat (r + 1)
        obtain ⟨out, hout⟩ : ∃ out, out = (ks.drop (r + 1)).reverse.flatMap (ordF (kids l) k) := ⟨_, rfl⟩
        rw [← hout] at hO hst hfr ⊢
        have hih := ih (w := wr) (Kd.C_below HC.out (HB2.out.trans (hB.out.mono HB2.out.size))) hc (hin x hxk) (hD' x hxk)
        have hxl := hw.ord_len k x
        have HST := Aside0.mk hst
        have HIH := Aside0.mk hih
        have h1 : ((r + 1 : Nat) : Int) - 1 = (r : Int) := by omega
        have h2 : 0 ≤ (r : Int) ∧ (r : Int) < (ks.length : Int) := by omega
        rw [h1]
        clear hx hgk hst hout hih
        go_wp2_with (first
          | (go_at_call 25; refine HIH.out.mono ?_; rintro e w3 ⟨v3, rfl, hR3, hb3⟩; obtain ⟨A3, c3, rfl⟩ := Kd.R_slice hR3; have HR3 := Aside0.mk hR3; have HO3 := Aside0.mk (Kd.R_below hO.out hb3); have HB3 := Aside0.mk (hB.out.trans (hb3.mono hB.out.size)); have HC3 := Aside0.mk (Kd.R_reads' hR3).2.2; clear hR3 hb3)
          | (at_builtin; refine app_rows w2.heap.size rfl _ _ rfl (.slice Ao out.length co) out (ordF (kids l) k x) A3 (ordF (kids l) k x).length c3 rfl rfl HO3.out HC3.out HB3.out.size (by omega) ?_; intro v4 w4 hR4 hg4; have HR4 := Aside0.mk hR4; have HB4 := Aside0.mk (HB3.out.grown hg4 HB3.out.size (fun k hk => own_base (Kd.R_own HO3.out).choose_spec k hk)); clear hR4 hg4))
        go_roundw
        case rel => exact ⟨r, by omega, rfl, by rw [HST.out]; exact HR4, HB4⟩
        case measure => simp [intOf]
      · obtain rfl : q = 0 := by omega
        have hO0 := hO.out
        obtain ⟨out, hout⟩ : ∃ out, out = (ks.drop 0).reverse.flatMap (ordF (kids l) k) := ⟨_, rfl⟩
        have hfr := hflat 0
        rw [← hout] at hO0 hfr ⊢
        have hfin : ordF (kids l) (k + 1) id = out ++ [id] := by rw [hout, HK.out]; simp [ordF]
        have HFIN := Aside0.mk hfin
        have HO := Aside0.mk hO0
        have h1 : ((0 : Nat) : Int) - 1 = -1 := by omega
        rw [h1]
        clear hO0 hout hfin
        go_wp2_with (at_builtin; refine Kd.R_append (Kd.int .u64) (w0 := wr) w2.heap.size rfl _ _ 33 27 _ 8 rfl Try.underlying33 Tr.info27 rfl (show 0 < 1 by decide) (by decide) (.slice Ao out.length co) out id [.int .u64 id] (fun k => (Value.slice Ao out.length co).ownBlock = some k ∨ wr.heap.size ≤ k) (fun _ => False) rfl (by first | rfl | (go_simp; done) | (simp; done)) rfl (fun _ h => h.elim) (fun k hk => .inr hk) (Kd.R_mono HO.out (fun k hk => .inl hk)) (Below.refl _ _) hB.out.size (by omega) ?_; intro v1 w5 hR5 hb5 hg5 hat5)
        go_ret
        rw [HFIN.out]
        exact ⟨_, rfl, R_shrink (Kd.R_lower hR5 HB2.out.size), (HB2.out.trans (hB.out.mono HB2.out.size)).trans (hb5.mono HB2.out.size)⟩
end Go.Proofs.Ytjnpbikalamchaa.Tr
/- The document's Order, Drop, Cut, told by owners. -/
set_option linter.unusedVariables false
set_option linter.unusedSimpArgs false
namespace Go.Proofs.Ytjnpbikalamchaa.Tr
open Go.RowKit Go.Maps Go.Proofs.YtjnpbikalamchaaW.PrintWords Go.Proofs.YtjnpbikalamchaaW.PrintLast Go.Proofs.YtjnpbikalamchaaW.PrintMore
open Go.Proofs.Ytjnpbikalamchaa.Rf
attribute [local go_sem] max2_int min2_int
theorem dorder_calls {l : T} (hw : WfT l) (hl : l.length ≤ 60) {A : Option Addr} {c : Nat} {w : World} (hC : Kd.C k59 w A (toS l).length (toS l)) (hc : (toS l).length ≤ c) (id : Int) :
    Calls Try.prog 25 #[.slice A (toS l).length c, .int .u64 id] w fun e w' => ∃ v, e = .returned v ∧ (Kd.int .u64).R 27 w' w.heap.size (fun k => v.ownBlock = some k) v (ord l id) ∧ Below w.heap.size w w' := by
  by_cases h : id ∈ ids l
  · have e : ord l id = ordF (kids l) l.length id := by unfold ord; rw [if_pos h]
    rw [e]
    exact dorder_yes hw hl l.length hC hc h (hw.dp _ _ h (by omega))
  · refine (dorder_no hC hc hl (id := id) (fun h' => h h'.2)).mono ?_
    rintro e w1 ⟨rfl, hb⟩
    refine ⟨_, rfl, ?_, hb⟩
    rw [ord_none h]
    exact Kd.R_nil _ _ _ _ _
/-- The order in a row of anybody's. -/
theorem dwith_calls {l : T} (hl : l.length ≤ 60) {gone : List Int} (hg : gone.length ≤ 1000) {A : Option Addr} {c : Nat} {A1 : Option Addr} {c1 : Nat} {w : World} (hC : Kd.C k59 w A (toS l).length (toS l)) (hc : (toS l).length ≤ c) (hC1 : Kd.C (Kd.int .u64) w A1 gone.length gone) (hc1 : gone.length ≤ c1) :
    Calls Try.prog 27 #[.slice A (toS l).length c, .slice A1 gone.length c1] w fun e w' => ∃ v, e = .returned v ∧ Kd.R k59 59 w' w.heap.size (fun _ => True) v (toS (without l gone)) ∧ Below w.heap.size w w' :=
  steadingref16_without.calls 2000000 A c (toS l) A1 c1 gone _ w hC hc hC1 hc1 (with_f l gone (by omega) hg)
set_option maxHeartbeats 2000000 in
theorem ddrop_calls {l : T} (hw : WfT l) (hl : l.length ≤ 60) {A : Option Addr} {c : Nat} {w : World} (hC : Kd.C k59 w A (toS l).length (toS l)) (hc : (toS l).length ≤ c) (id : Int) :
    Calls Try.prog 15 #[.slice A (toS l).length c, .int .u64 id] w fun e w' => ∃ v1 v2, e = .returned (.tuple #[v1, v2]) ∧ Kd.R k59 59 w' w.heap.size (fun _ => True) v1 (toS (dropT l id)) ∧ (Kd.int .u64).R 27 w' w.heap.size (fun k => v2.ownBlock = some k) v2 (ord l id) ∧ Below w.heap.size w w' := by
  have hol : (ord l id).length ≤ 61 := by
    unfold ord
    by_cases h : id ∈ ids l
    · rw [if_pos h]; exact Nat.le_trans (hw.ord_len _ _) (by omega)
    · rw [if_neg h]; simp
  have HC := Aside0.mk hC
  have ho := dorder_calls hw hl hC hc id
  go_enter Try.func15, Try.ntmps15
  go_wp2_with (first
    | (go_at_call 25; refine ho.mono ?_; rintro e w1 ⟨v, rfl, hR, hb⟩; obtain ⟨A1, c1, rfl⟩ := Kd.R_slice hR; have HR := Aside0.mk hR; have HB := Aside0.mk hb; clear hR hb)
    | (go_at_call 27; refine (dwith_calls hl (by omega) (Kd.C_below HC.out HB.out) hc (Kd.R_reads' HR.out).2.2 (Kd.R_reads' HR.out).2.1).mono ?_; rintro e w2 ⟨v2, rfl, hR2, hb2⟩))
  refine bodyPost_ret (v := .tuple #[v2, .slice A1 (ord l id).length c1]) (by simp [results, Try.results15, go_sem]) rfl ⟨_, _, rfl, Kd.R_lower hR2 HB.out.size, Kd.R_below HR.out hb2, HB.out.trans (hb2.mono HB.out.size)⟩
end Go.Proofs.Ytjnpbikalamchaa.Tr
/- The document's Cut, walked. -/
set_option linter.unusedVariables false
set_option linter.unusedSimpArgs false
namespace Go.Proofs.Ytjnpbikalamchaa.Tr
open Go.RowKit Go.Maps Go.Proofs.YtjnpbikalamchaaW.PrintWords Go.Proofs.YtjnpbikalamchaaW.PrintLast Go.Proofs.YtjnpbikalamchaaW.PrintMore
open Go.Proofs.Ytjnpbikalamchaa.Rf
attribute [local go_sem] max2_int min2_int
theorem cutG_len {l : T} (hw : WfT l) (hl : l.length ≤ 60) (id : Int) (n : Nat) : (cutG l id n).length ≤ 60 := by
  have := (hw.cut_nodup id n).length_le_of_subset (l₂ := ids l) (fun y hy => hw.cut_sub hy)
  rw [ids_len] at this
  omega
set_option maxHeartbeats 2000000 in
theorem dcut_neg {l : T} {A : Option Addr} {c : Nat} {w : World} (id n : Int) (hn : n < 0) :
    Calls Try.prog 12 #[.slice A (toS l).length c, .int .u64 id, .int .i64 n] w fun e w' => e = .returned (.tuple #[.slice A (toS l).length c, .slice none 0 0]) ∧ Below w.heap.size w w' := by
  have hd : decide (n < 0) = true := by simpa using hn
  go_enter Try.func12, Try.ntmps12
  go_wp2_with fail
  exact bodyPost_ret (v := .tuple #[.slice A (toS l).length c, .slice none 0 0]) (by simp [results, Try.results12, go_sem]) rfl ⟨rfl, Below.refl _ _⟩
set_option maxHeartbeats 2000000 in
theorem dcut_no {l : T} (hl : l.length ≤ 60) {A : Option Addr} {c : Nat} {w : World} (hC : Kd.C k59 w A (toS l).length (toS l)) (hc : (toS l).length ≤ c) (id n : Int) (hn : 0 ≤ n) (h0 : id ≠ 0) (hi : id ∉ ids l) :
    Calls Try.prog 12 #[.slice A (toS l).length c, .int .u64 id, .int .i64 n] w fun e w' => e = .returned (.tuple #[.slice A (toS l).length c, .slice none 0 0]) ∧ Below w.heap.size w w' := by
  have hd : decide (n < 0) = false := by simpa using hn
  have hnl : ¬ n < 0 := by omega
  have hz : (id == 0) = false := by simpa using h0
  have hh := steadingref16_Has.calls 1001 A c (toS l) id _ w hC hc (has_f l id (by omega))
  rw [decide_eq_false (fun h => hi h.2)] at hh
  go_enter Try.func12, Try.ntmps12
  go_wp2_with (go_at_call 19; refine hh.mono ?_; rintro e w1 ⟨rfl, hd⟩)
  exact bodyPost_ret (v := .tuple #[.slice A (toS l).length c, .slice none 0 0]) (by simp [results, Try.results12, go_sem]) rfl ⟨rfl, hd.below⟩
set_option maxRecDepth 10000 in
set_option maxHeartbeats 4000000 in
theorem dcut_zero {l : T} (hw : WfT l) (hl : l.length ≤ 60) {A : Option Addr} {c : Nat} {w : World} (hC : Kd.C k59 w A (toS l).length (toS l)) (hc : (toS l).length ≤ c)  (n : Nat) (m : Int) (hm : m = n) (hn : m ≤ 9223372036854775807) :
    Calls Try.prog 12 #[.slice A (toS l).length c, .int .u64 0, .int .i64 m] w fun e w' => ∃ v1 v2, e = .returned (.tuple #[v1, v2]) ∧ Kd.R k59 59 w' w.heap.size (fun _ => True) v1 (toS (without l (cutG l 0 n))) ∧ (Kd.int .u64).R 27 w' w.heap.size (fun k => v2.ownBlock = some k) v2 (cutG l 0 n) ∧ Below w.heap.size w w' := by
  have HB1 := Aside0.mk (Below.refl w.heap.size w)
  have hnl : ¬ m < 0 := by omega
  have hd : decide (m < 0) = false := by simpa using hnl
  have HM := Aside0.mk hm
  have HC := Aside0.mk hC
  have hgl := cutG_len hw hl 0
  clear hC hm
  go_enter Try.func12, Try.ntmps12
  go_wp2_with fail
  go_at_call 23; refine (steadingref16_Children.calls 1001 A c (toS l) 0 _ w (Kd.C_below HC.out HB1.out) hc (kids_f l 0 (by omega))).mono ?_; rintro e w2 ⟨v2, rfl, hR2, hb2⟩; obtain ⟨A2, c2, rfl⟩ := Kd.R_slice hR2; have HR2 := Aside0.mk hR2; have HB2 := Aside0.mk (HB1.out.trans (hb2.mono HB1.out.size)); clear hR2 hb2
  dsimp only
  go_wp2_with fail
  have hkl : (kids l 0).length ≤ 60 := Nat.le_trans (kids_len l _) hl
  have HO0 := Aside0.mk (show (Kd.int .u64).R 27 w2 w2.heap.size (fun k => (Value.slice none 0 0).ownBlock = some k) (.slice none 0 0) (cutG l 0 (kids l 0).length) by rw [cutG_all]; exact Kd.R_nil _ _ _ _ _)
  go_loopw [8, 10] (fun vo vi wr => ∃ q : Nat, q ≤ (kids l 0).length ∧ (n ≤ q ∨ q = (kids l 0).length) ∧ vi = .int .i64 ((q : Int) - 1) ∧ Aside0 ((Kd.int .u64).R 27 wr w2.heap.size (fun k => vo.ownBlock = some k) vo (cutG l 0 q)) ∧ Aside0 (Below w2.heap.size w2 wr)) (fun _ vi _ => ((intOf vi) + 1).toNat)
  case atStart => exact ⟨_, Nat.le_refl _, .inr rfl, by rw [show wrap64 (((kids l 0).length : Int) - 1) = ((kids l 0).length : Int) - 1 by unfold wrap64; omega], HO0, Aside0.mk (Below.refl _ _)⟩
  case round =>
    obtain ⟨q, hq, hqn, rfl, hO, hB⟩ := hrel
    obtain ⟨Ao, co, rfl⟩ := Kd.R_slice hO.out
    by_cases hlt : n < q
    · obtain ⟨r, rfl⟩ : ∃ r, q = r + 1 := ⟨q - 1, by omega⟩
      have hr : r < (kids l 0).length := by omega
      obtain ⟨bk, ck, he, hc2, _⟩ := row_at (Kd.R_below HR2.out (w1 := wr) (hB.out.mono (by have := HB2.out.size; omega))) hr
      injection he with he _ hcc
      subst he hcc
      have hst := cutG_step hr
      obtain ⟨x, hx⟩ : ∃ x, x = (kids l 0).getD r 0 := ⟨_, rfl⟩
      rw [← hx] at hc2 hst
      have hxk : x ∈ kids l 0 := by rw [hx, List.getD_eq_getElem?_getD, List.getElem?_eq_getElem hr]; exact List.getElem_mem hr
      have hxl : (ord l x).length ≤ 61 := by unfold ord; rw [if_pos (kid_in hxk)]; exact Nat.le_trans (hw.ord_len _ _) (by omega)
      have hih := dorder_calls hw hl (w := wr) (Kd.C_below HC.out (HB2.out.trans (hB.out.mono HB2.out.size))) hc x
      have hfr := hgl (r + 1)
      obtain ⟨out, hout⟩ : ∃ out, out = cutG l 0 (r + 1) := ⟨_, rfl⟩
      rw [← hout] at hO hst hfr ⊢
      have HST := Aside0.mk hst
      have HIH := Aside0.mk hih
      have h1 : ((r + 1 : Nat) : Int) - 1 = (r : Int) := by omega
      have h2 : 0 ≤ (r : Int) ∧ (r : Int) < ((kids l 0).length : Int) := by omega
      have h3 : m ≤ (r : Int) := by have := HM.out; omega
      have HLT := Aside0.mk hlt
      rw [h1]
      clear hx hst hout hih hqn hlt
      go_wp2_with (first
        | (go_at_call 25; refine HIH.out.mono ?_; rintro e w3 ⟨v3, rfl, hR3, hb3⟩; obtain ⟨A3, c3, rfl⟩ := Kd.R_slice hR3; have HR3 := Aside0.mk hR3; have HO3 := Aside0.mk (Kd.R_below hO.out hb3); have HB3 := Aside0.mk (hB.out.trans (hb3.mono hB.out.size)); have HC3 := Aside0.mk (Kd.R_reads' hR3).2.2; clear hR3 hb3)
        | (at_builtin; refine app_rows w2.heap.size rfl _ _ rfl (.slice Ao out.length co) out (ord l x) A3 (ord l x).length c3 rfl rfl HO3.out HC3.out HB3.out.size (by omega) ?_; intro v4 w4 hR4 hg4; have HR4 := Aside0.mk hR4; have HB4 := Aside0.mk (HB3.out.grown hg4 HB3.out.size (fun k hk => own_base (Kd.R_own HO3.out).choose_spec k hk)); clear hR4 hg4))
      go_roundw
      case rel => exact ⟨r, by omega, .inl (by have := HLT.out; omega), rfl, by rw [HST.out]; exact HR4, HB4⟩
      case measure => simp [intOf]
    · have hcq : cutG l 0 n = cutG l 0 q := by
        rcases hqn with c | c
        · rw [show q = n by omega]
        · rw [c, cutG_all]; unfold cutG; rw [List.drop_eq_nil_of_le (by omega)]; rfl
      have hfr := hgl q
      have HCQ := Aside0.mk hcq
      have h1 : ¬ m ≤ (q : Int) - 1 := by have := HM.out; omega
      have hCr := Kd.C_below HC.out (HB2.out.trans (hB.out.mono HB2.out.size))
      have hwc := dwith_calls hl (by omega) hCr hc (Kd.R_reads' hO.out).2.2 (Kd.R_reads' hO.out).2.1
      have HBA := Aside0.mk (HB2.out.trans (hB.out.mono HB2.out.size))
      clear hcq hqn hCr
      go_wp2_with (go_at_call 27; refine hwc.mono ?_; rintro e w5 ⟨v5, rfl, hR5, hb5⟩)
      rw [HCQ.out]
      refine bodyPost_ret (v := .tuple #[v5, .slice Ao (cutG l 0 q).length co]) (by simp [results, Try.results12, go_sem]) rfl ⟨_, _, rfl, Kd.R_lower hR5 HBA.out.size, Kd.R_lower (Kd.R_below hO.out hb5) HB2.out.size, HBA.out.trans (hb5.mono HBA.out.size)⟩
set_option maxRecDepth 10000 in
set_option maxHeartbeats 4000000 in
theorem dcut_id {l : T} (hw : WfT l) (hl : l.length ≤ 60) {A : Option Addr} {c : Nat} {w : World} (hC : Kd.C k59 w A (toS l).length (toS l)) (hc : (toS l).length ≤ c) {id : Int} (hid : id ∈ ids l) (n : Nat) (m : Int) (hm : m = n) (hn : m ≤ 9223372036854775807) :
    Calls Try.prog 12 #[.slice A (toS l).length c, .int .u64 id, .int .i64 m] w fun e w' => ∃ v1 v2, e = .returned (.tuple #[v1, v2]) ∧ Kd.R k59 59 w' w.heap.size (fun _ => True) v1 (toS (without l (cutG l id n))) ∧ (Kd.int .u64).R 27 w' w.heap.size (fun k => v2.ownBlock = some k) v2 (cutG l id n) ∧ Below w.heap.size w w' := by
  have h0 : id ≠ 0 := fun e => hw.zero (e ▸ hid)
  have hz : (id == 0) = false := by simpa using h0
  have hh := steadingref16_Has.calls 1001 A c (toS l) id _ w hC hc (has_f l id (by omega))
  rw [decide_eq_true ⟨h0, hid⟩] at hh
  have hnl : ¬ m < 0 := by omega
  have hd : decide (m < 0) = false := by simpa using hnl
  have HM := Aside0.mk hm
  have HC := Aside0.mk hC
  have hgl := cutG_len hw hl id
  clear hC hm
  go_enter Try.func12, Try.ntmps12
  go_wp2_with fail
  go_at_call 19; refine hh.mono ?_; rintro e w1 ⟨rfl, hd1⟩; have HB1 := Aside0.mk hd1.below; clear hd1
  dsimp only
  go_wp2_with fail
  go_at_call 23; refine (steadingref16_Children.calls 1001 A c (toS l) id _ w1 (Kd.C_below HC.out HB1.out) hc (kids_f l id (by omega))).mono ?_; rintro e w2 ⟨v2, rfl, hR2, hb2⟩; obtain ⟨A2, c2, rfl⟩ := Kd.R_slice hR2; have HR2 := Aside0.mk hR2; have HB2 := Aside0.mk (HB1.out.trans (hb2.mono HB1.out.size)); clear hR2 hb2
  dsimp only
  go_wp2_with fail
  have hkl : (kids l id).length ≤ 60 := Nat.le_trans (kids_len l _) hl
  have HO0 := Aside0.mk (show (Kd.int .u64).R 27 w2 w2.heap.size (fun k => (Value.slice none 0 0).ownBlock = some k) (.slice none 0 0) (cutG l id (kids l id).length) by rw [cutG_all]; exact Kd.R_nil _ _ _ _ _)
  go_loopw [8, 10] (fun vo vi wr => ∃ q : Nat, q ≤ (kids l id).length ∧ (n ≤ q ∨ q = (kids l id).length) ∧ vi = .int .i64 ((q : Int) - 1) ∧ Aside0 ((Kd.int .u64).R 27 wr w2.heap.size (fun k => vo.ownBlock = some k) vo (cutG l id q)) ∧ Aside0 (Below w2.heap.size w2 wr)) (fun _ vi _ => ((intOf vi) + 1).toNat)
  case atStart => exact ⟨_, Nat.le_refl _, .inr rfl, by rw [show wrap64 (((kids l id).length : Int) - 1) = ((kids l id).length : Int) - 1 by unfold wrap64; omega], HO0, Aside0.mk (Below.refl _ _)⟩
  case round =>
    obtain ⟨q, hq, hqn, rfl, hO, hB⟩ := hrel
    obtain ⟨Ao, co, rfl⟩ := Kd.R_slice hO.out
    by_cases hlt : n < q
    · obtain ⟨r, rfl⟩ : ∃ r, q = r + 1 := ⟨q - 1, by omega⟩
      have hr : r < (kids l id).length := by omega
      obtain ⟨bk, ck, he, hc2, _⟩ := row_at (Kd.R_below HR2.out (w1 := wr) (hB.out.mono (by have := HB2.out.size; omega))) hr
      injection he with he _ hcc
      subst he hcc
      have hst := cutG_step hr
      obtain ⟨x, hx⟩ : ∃ x, x = (kids l id).getD r 0 := ⟨_, rfl⟩
      rw [← hx] at hc2 hst
      have hxk : x ∈ kids l id := by rw [hx, List.getD_eq_getElem?_getD, List.getElem?_eq_getElem hr]; exact List.getElem_mem hr
      have hxl : (ord l x).length ≤ 61 := by unfold ord; rw [if_pos (kid_in hxk)]; exact Nat.le_trans (hw.ord_len _ _) (by omega)
      have hih := dorder_calls hw hl (w := wr) (Kd.C_below HC.out (HB2.out.trans (hB.out.mono HB2.out.size))) hc x
      have hfr := hgl (r + 1)
      obtain ⟨out, hout⟩ : ∃ out, out = cutG l id (r + 1) := ⟨_, rfl⟩
      rw [← hout] at hO hst hfr ⊢
      have HST := Aside0.mk hst
      have HIH := Aside0.mk hih
      have h1 : ((r + 1 : Nat) : Int) - 1 = (r : Int) := by omega
      have h2 : 0 ≤ (r : Int) ∧ (r : Int) < ((kids l id).length : Int) := by omega
      have h3 : m ≤ (r : Int) := by have := HM.out; omega
      have HLT := Aside0.mk hlt
      rw [h1]
      clear hx hst hout hih hqn hlt
      go_wp2_with (first
        | (go_at_call 25; refine HIH.out.mono ?_; rintro e w3 ⟨v3, rfl, hR3, hb3⟩; obtain ⟨A3, c3, rfl⟩ := Kd.R_slice hR3; have HR3 := Aside0.mk hR3; have HO3 := Aside0.mk (Kd.R_below hO.out hb3); have HB3 := Aside0.mk (hB.out.trans (hb3.mono hB.out.size)); have HC3 := Aside0.mk (Kd.R_reads' hR3).2.2; clear hR3 hb3)
        | (at_builtin; refine app_rows w2.heap.size rfl _ _ rfl (.slice Ao out.length co) out (ord l x) A3 (ord l x).length c3 rfl rfl HO3.out HC3.out HB3.out.size (by omega) ?_; intro v4 w4 hR4 hg4; have HR4 := Aside0.mk hR4; have HB4 := Aside0.mk (HB3.out.grown hg4 HB3.out.size (fun k hk => own_base (Kd.R_own HO3.out).choose_spec k hk)); clear hR4 hg4))
      go_roundw
      case rel => exact ⟨r, by omega, .inl (by have := HLT.out; omega), rfl, by rw [HST.out]; exact HR4, HB4⟩
      case measure => simp [intOf]
    · have hcq : cutG l id n = cutG l id q := by
        rcases hqn with c | c
        · rw [show q = n by omega]
        · rw [c, cutG_all]; unfold cutG; rw [List.drop_eq_nil_of_le (by omega)]; rfl
      have hfr := hgl q
      have HCQ := Aside0.mk hcq
      have h1 : ¬ m ≤ (q : Int) - 1 := by have := HM.out; omega
      have hCr := Kd.C_below HC.out (HB2.out.trans (hB.out.mono HB2.out.size))
      have hwc := dwith_calls hl (by omega) hCr hc (Kd.R_reads' hO.out).2.2 (Kd.R_reads' hO.out).2.1
      have HBA := Aside0.mk (HB2.out.trans (hB.out.mono HB2.out.size))
      clear hcq hqn hCr
      go_wp2_with (go_at_call 27; refine hwc.mono ?_; rintro e w5 ⟨v5, rfl, hR5, hb5⟩)
      rw [HCQ.out]
      refine bodyPost_ret (v := .tuple #[v5, .slice Ao (cutG l id q).length co]) (by simp [results, Try.results12, go_sem]) rfl ⟨_, _, rfl, Kd.R_lower hR5 HBA.out.size, Kd.R_lower (Kd.R_below hO.out hb5) HB2.out.size, HBA.out.trans (hb5.mono HBA.out.size)⟩
end Go.Proofs.Ytjnpbikalamchaa.Tr
/- The document's Add, walked; the document's Add, Cut, Drop told by owners. -/
set_option linter.unusedVariables false
set_option linter.unusedSimpArgs false
namespace Go.Proofs.Ytjnpbikalamchaa.Tr
open Go.RowKit Go.Maps Go.Proofs.YtjnpbikalamchaaW.PrintWords Go.Proofs.YtjnpbikalamchaaW.PrintLast Go.Proofs.YtjnpbikalamchaaW.PrintMore
open Go.Proofs.Ytjnpbikalamchaa.Rf
attribute [local go_sem] max2_int min2_int
theorem toS_append (l : T) (id p : Int) : toS (l ++ [(id, p)]) = toS l ++ [⟨id, p⟩] := by simp [toS]
theorem k59_fresh {W : World} {base : Nat} {ok : Nat → Prop} {x : S59} {cs : List Value} (h : k59.K W x cs) : k59.M W base ok x cs := by rw [k59_open h]; exact k59_mkM _ _ _ x
set_option maxHeartbeats 2000000 in
theorem dadd_zero {l : T} (hl : l.length ≤ 60) {A : Option Addr} {c : Nat} {w : World} (hC : Kd.C k59 w A (toS l).length (toS l)) (hc : (toS l).length ≤ c) (id p : Int) (h0 : id = 0) :
    Calls Try.prog 10 #[.slice A (toS l).length c, .int .u64 id, .int .u64 p] w fun e w' => e = .returned (.tuple #[.slice A (toS l).length c, .bool false]) ∧ Below w.heap.size w w' := by
  have HC := Aside0.mk hC
  have HB0 := Aside0.mk (Below.refl w.heap.size w)
  subst h0
  clear hC
  go_enter Try.func10, Try.ntmps10
  go_wp2_with fail
  exact bodyPost_ret (v := .tuple #[.slice A (toS l).length c, .bool false]) (by simp [results, Try.results10, go_sem]) rfl ⟨rfl, HB0.out⟩
set_option maxHeartbeats 2000000 in
theorem dadd_has {l : T} (hl : l.length ≤ 60) {A : Option Addr} {c : Nat} {w : World} (hC : Kd.C k59 w A (toS l).length (toS l)) (hc : (toS l).length ≤ c) (id p : Int) (h0 : id ≠ 0) (hi : id ∈ ids l) :
    Calls Try.prog 10 #[.slice A (toS l).length c, .int .u64 id, .int .u64 p] w fun e w' => e = .returned (.tuple #[.slice A (toS l).length c, .bool false]) ∧ Below w.heap.size w w' := by
  have HC := Aside0.mk hC
  have HB0 := Aside0.mk (Below.refl w.heap.size w)
  have hz : (id == 0) = false := by simpa using h0
  have H1 := Aside0.mk (show ∀ W : World, Below w.heap.size w W → Calls Try.prog 19 #[.slice A (toS l).length c, .int .u64 id] W (fun e w' => e = .returned (.bool true) ∧ Below W.heap.size W w') from fun W hW => by
    have h := steadingref16_Has.calls 1001 A c (toS l) id _ W (Kd.C_below HC.out hW) hc (has_f l id (by omega))
    rw [decide_eq_true (show id ≠ 0 ∧ id ∈ ids l from ⟨h0, hi⟩)] at h
    exact h.mono (fun e w' ⟨he, hd⟩ => ⟨he, hd.below⟩))
  clear hC
  go_enter Try.func10, Try.ntmps10
  go_wp2_with fail
  go_at_call 19; refine (show Calls Try.prog 19 _ _ _ from H1.out w HB0.out).mono ?_; rintro e w1 ⟨rfl, hd1⟩; have HB1 := Aside0.mk (HB0.out.trans (hd1.mono HB0.out.size)); clear hd1
  dsimp only
  go_wp2_with fail
  exact bodyPost_ret (v := .tuple #[.slice A (toS l).length c, .bool false]) (by simp [results, Try.results10, go_sem]) rfl ⟨rfl, HB1.out⟩
set_option maxHeartbeats 2000000 in
theorem dadd_nop {l : T} (hl : l.length ≤ 60) {A : Option Addr} {c : Nat} {w : World} (hC : Kd.C k59 w A (toS l).length (toS l)) (hc : (toS l).length ≤ c) (id p : Int) (h0 : id ≠ 0) (hi : id ∉ ids l) (p0 : p ≠ 0) (hp : p ∉ ids l) :
    Calls Try.prog 10 #[.slice A (toS l).length c, .int .u64 id, .int .u64 p] w fun e w' => e = .returned (.tuple #[.slice A (toS l).length c, .bool false]) ∧ Below w.heap.size w w' := by
  have HC := Aside0.mk hC
  have HB0 := Aside0.mk (Below.refl w.heap.size w)
  have hz : (id == 0) = false := by simpa using h0
  have hpz : (p == 0) = false := by simpa using p0
  have H1 := Aside0.mk (show ∀ W : World, Below w.heap.size w W → Calls Try.prog 19 #[.slice A (toS l).length c, .int .u64 id] W (fun e w' => e = .returned (.bool false) ∧ Below W.heap.size W w') from fun W hW => by
    have h := steadingref16_Has.calls 1001 A c (toS l) id _ W (Kd.C_below HC.out hW) hc (has_f l id (by omega))
    rw [decide_eq_false (show ¬ (id ≠ 0 ∧ id ∈ ids l) from fun h => hi h.2)] at h
    exact h.mono (fun e w' ⟨he, hd⟩ => ⟨he, hd.below⟩))
  have H2 := Aside0.mk (show ∀ W : World, Below w.heap.size w W → Calls Try.prog 19 #[.slice A (toS l).length c, .int .u64 p] W (fun e w' => e = .returned (.bool false) ∧ Below W.heap.size W w') from fun W hW => by
    have h := steadingref16_Has.calls 1001 A c (toS l) p _ W (Kd.C_below HC.out hW) hc (has_f l p (by omega))
    rw [decide_eq_false (show ¬ (p ≠ 0 ∧ p ∈ ids l) from fun h => hp h.2)] at h
    exact h.mono (fun e w' ⟨he, hd⟩ => ⟨he, hd.below⟩))
  clear hC
  go_enter Try.func10, Try.ntmps10
  go_wp2_with fail
  go_at_call 19; refine (show Calls Try.prog 19 _ _ _ from H1.out w HB0.out).mono ?_; rintro e w1 ⟨rfl, hd1⟩; have HB1 := Aside0.mk (HB0.out.trans (hd1.mono HB0.out.size)); clear hd1
  dsimp only
  go_wp2_with fail
  go_at_call 19; refine (show Calls Try.prog 19 _ _ _ from H2.out w1 HB1.out).mono ?_; rintro e w2 ⟨rfl, hd2⟩; have HB2 := Aside0.mk (HB1.out.trans (hd2.mono HB1.out.size)); clear hd2
  dsimp only
  go_wp2_with fail
  exact bodyPost_ret (v := .tuple #[.slice A (toS l).length c, .bool false]) (by simp [results, Try.results10, go_sem]) rfl ⟨rfl, HB2.out⟩
set_option maxRecDepth 10000 in
set_option maxHeartbeats 2000000 in
theorem dadd_top {l : T} (hl : l.length ≤ 60) {A : Option Addr} {c : Nat} {w : World} (hC : Kd.C k59 w A (toS l).length (toS l)) (hc : (toS l).length ≤ c) (id p : Int) (h0 : id ≠ 0) (hi : id ∉ ids l) (p0 : p = 0) :
    Calls Try.prog 10 #[.slice A (toS l).length c, .int .u64 id, .int .u64 p] w fun e w' => ∃ v, e = .returned (.tuple #[v, .bool true]) ∧ Kd.R k59 59 w' w.heap.size (fun _ => True) v (toS (l ++ [(id, p)])) ∧ Below w.heap.size w w' := by
  have HC := Aside0.mk hC
  have HB0 := Aside0.mk (Below.refl w.heap.size w)
  have hln : (toS l).length ≤ 60 := by rw [toS_len]; exact hl
  subst p0
  have hz : (id == 0) = false := by simpa using h0
  have H1 := Aside0.mk (show ∀ W : World, Below w.heap.size w W → Calls Try.prog 19 #[.slice A (toS l).length c, .int .u64 id] W (fun e w' => e = .returned (.bool false) ∧ Below W.heap.size W w') from fun W hW => by
    have h := steadingref16_Has.calls 1001 A c (toS l) id _ W (Kd.C_below HC.out hW) hc (has_f l id (by omega))
    rw [decide_eq_false (show ¬ (id ≠ 0 ∧ id ∈ ids l) from fun h => hi h.2)] at h
    exact h.mono (fun e w' ⟨he, hd⟩ => ⟨he, hd.below⟩))
  clear hC
  go_enter Try.func10, Try.ntmps10
  go_wp2_with fail
  go_at_call 19; refine (show Calls Try.prog 19 _ _ _ from H1.out w HB0.out).mono ?_; rintro e w1 ⟨rfl, hd1⟩; have HB1 := Aside0.mk (HB0.out.trans (hd1.mono HB0.out.size)); clear hd1
  dsimp only
  go_wp2_with (first
    | (at_builtin; refine Kd.R_append k59 (w0 := w) w.heap.size rfl (.tmp 30) (.tmp 34) 26 59 (.agg #[(.int .u64 0), (.int .u64 0)]) 16 rfl Try.underlying26 info59 rfl (by decide) (by omega) (.slice A5 (toS l).length c5) (toS l) (⟨id, 0⟩ : S59) [.int .u64 id, .int .u64 0] (fun _ => True) (fun _ => False) (by first | rfl | (go_simp; done) | (simp; done)) (by first | rfl | (go_simp; done) | (simp; done)) (k59_mkM _ _ _ (⟨id, 0⟩ : S59)) (fun _ h => h.elim) (fun _ _ => trivial) HR5.out HB5.out HB5.out.size (by omega) ?_; intro v6 w6 hR6 hb6 _ _; have HR6 := Aside0.mk hR6; have HB6 := Aside0.mk hb6; clear hR6 hb6)
    | (at_builtin; refine Kd.R_append_rows k59 (Rr := k59.K w) (w0 := w) w.heap.size rfl _ _ 26 59 (.agg #[(.int .u64 0), (.int .u64 0)]) 16 rfl Try.underlying26 info59 rfl (by decide) (by omega) (.slice none 0 0) [] (toS l) A (toS l).length c (fun _ => True) (fun _ => False) rfl rfl (Kd.R_nil _ _ _ _ _) (Kd.C_below HC.out HB1.out) (fun x cs h => k59_fresh h) (fun _ h => h.elim) (fun _ _ => trivial) HB1.out HB1.out.size (by simp only [List.length_nil]; omega) ?_; intro v5 w5 hR5 hb5 _ _; rw [List.nil_append] at hR5; obtain ⟨A5, c5, rfl⟩ := Kd.R_slice hR5; have HR5 := Aside0.mk hR5; have HB5 := Aside0.mk hb5; clear hR5 hb5))
  refine bodyPost_ret (v := .tuple #[v6, .bool true]) (by simp [results, Try.results10, go_sem]) rfl ⟨_, rfl, by rw [toS_append]; exact HR6.out, HB6.out⟩
set_option maxRecDepth 10000 in
set_option maxHeartbeats 2000000 in
theorem dadd_sub {l : T} (hl : l.length ≤ 60) {A : Option Addr} {c : Nat} {w : World} (hC : Kd.C k59 w A (toS l).length (toS l)) (hc : (toS l).length ≤ c) (id p : Int) (h0 : id ≠ 0) (hi : id ∉ ids l) (p0 : p ≠ 0) (hp : p ∈ ids l) :
    Calls Try.prog 10 #[.slice A (toS l).length c, .int .u64 id, .int .u64 p] w fun e w' => ∃ v, e = .returned (.tuple #[v, .bool true]) ∧ Kd.R k59 59 w' w.heap.size (fun _ => True) v (toS (l ++ [(id, p)])) ∧ Below w.heap.size w w' := by
  have HC := Aside0.mk hC
  have HB0 := Aside0.mk (Below.refl w.heap.size w)
  have hln : (toS l).length ≤ 60 := by rw [toS_len]; exact hl
  have hz : (id == 0) = false := by simpa using h0
  have hpz : (p == 0) = false := by simpa using p0
  have H1 := Aside0.mk (show ∀ W : World, Below w.heap.size w W → Calls Try.prog 19 #[.slice A (toS l).length c, .int .u64 id] W (fun e w' => e = .returned (.bool false) ∧ Below W.heap.size W w') from fun W hW => by
    have h := steadingref16_Has.calls 1001 A c (toS l) id _ W (Kd.C_below HC.out hW) hc (has_f l id (by omega))
    rw [decide_eq_false (show ¬ (id ≠ 0 ∧ id ∈ ids l) from fun h => hi h.2)] at h
    exact h.mono (fun e w' ⟨he, hd⟩ => ⟨he, hd.below⟩))
  have H2 := Aside0.mk (show ∀ W : World, Below w.heap.size w W → Calls Try.prog 19 #[.slice A (toS l).length c, .int .u64 p] W (fun e w' => e = .returned (.bool true) ∧ Below W.heap.size W w') from fun W hW => by
    have h := steadingref16_Has.calls 1001 A c (toS l) p _ W (Kd.C_below HC.out hW) hc (has_f l p (by omega))
    rw [decide_eq_true (show p ≠ 0 ∧ p ∈ ids l from ⟨p0, hp⟩)] at h
    exact h.mono (fun e w' ⟨he, hd⟩ => ⟨he, hd.below⟩))
  clear hC
  go_enter Try.func10, Try.ntmps10
  go_wp2_with fail
  go_at_call 19; refine (show Calls Try.prog 19 _ _ _ from H1.out w HB0.out).mono ?_; rintro e w1 ⟨rfl, hd1⟩; have HB1 := Aside0.mk (HB0.out.trans (hd1.mono HB0.out.size)); clear hd1
  dsimp only
  go_wp2_with fail
  go_at_call 19; refine (show Calls Try.prog 19 _ _ _ from H2.out w1 HB1.out).mono ?_; rintro e w2 ⟨rfl, hd2⟩; have HB2 := Aside0.mk (HB1.out.trans (hd2.mono HB1.out.size)); clear hd2
  dsimp only
  go_wp2_with (first
    | (at_builtin; refine Kd.R_append k59 (w0 := w) w.heap.size rfl (.tmp 30) (.tmp 34) 26 59 (.agg #[(.int .u64 0), (.int .u64 0)]) 16 rfl Try.underlying26 info59 rfl (by decide) (by omega) (.slice A5 (toS l).length c5) (toS l) (⟨id, p⟩ : S59) [.int .u64 id, .int .u64 p] (fun _ => True) (fun _ => False) (by first | rfl | (go_simp; done) | (simp; done)) (by first | rfl | (go_simp; done) | (simp; done)) (k59_mkM _ _ _ (⟨id, p⟩ : S59)) (fun _ h => h.elim) (fun _ _ => trivial) HR5.out HB5.out HB5.out.size (by omega) ?_; intro v6 w6 hR6 hb6 _ _; have HR6 := Aside0.mk hR6; have HB6 := Aside0.mk hb6; clear hR6 hb6)
    | (at_builtin; refine Kd.R_append_rows k59 (Rr := k59.K w) (w0 := w) w.heap.size rfl _ _ 26 59 (.agg #[(.int .u64 0), (.int .u64 0)]) 16 rfl Try.underlying26 info59 rfl (by decide) (by omega) (.slice none 0 0) [] (toS l) A (toS l).length c (fun _ => True) (fun _ => False) rfl rfl (Kd.R_nil _ _ _ _ _) (Kd.C_below HC.out HB2.out) (fun x cs h => k59_fresh h) (fun _ h => h.elim) (fun _ _ => trivial) HB2.out HB2.out.size (by simp only [List.length_nil]; omega) ?_; intro v5 w5 hR5 hb5 _ _; rw [List.nil_append] at hR5; obtain ⟨A5, c5, rfl⟩ := Kd.R_slice hR5; have HR5 := Aside0.mk hR5; have HB5 := Aside0.mk hb5; clear hR5 hb5))
  refine bodyPost_ret (v := .tuple #[v6, .bool true]) (by simp [results, Try.results10, go_sem]) rfl ⟨_, rfl, by rw [toS_append]; exact HR6.out, HB6.out⟩
end Go.Proofs.Ytjnpbikalamchaa.Tr
