/- slices.DeleteFunc of one number of a row, walked. -/
import Derived.Test.YtjnpbikalamchaaMDel
set_option linter.unusedVariables false
set_option linter.unusedSimpArgs false
namespace Go.Proofs.Ytjnpbikalamchaa.Tr
open Go.RowKit Go.Maps Go.Proofs.YtjnpbikalamchaaW.PrintWords Go.Proofs.YtjnpbikalamchaaW.PrintLast Go.Proofs.YtjnpbikalamchaaW.PrintMore
attribute [local go_sem] max2_int min2_int
/-- The row when d numbers have been moved down. -/
def shl (ks : List Int) (i0 : Nat) : Nat → List Int
  | 0 => ks
  | d + 1 => (shl ks i0 d).set (i0 + d) (ks.getD (i0 + 1 + d) 0)
theorem shl_len (ks : List Int) (i0 d : Nat) : (shl ks i0 d).length = ks.length := by
  induction d with
  | zero => rfl
  | succ d ih => simp [shl, ih]
theorem shl_get (ks : List Int) (i0 d t : Nat) (h : i0 + d < ks.length) : (shl ks i0 d).getD t 0 = if i0 ≤ t ∧ t < i0 + d then ks.getD (t + 1) 0 else ks.getD t 0 := by
  induction d with
  | zero => rw [if_neg (by omega)]; rfl
  | succ d ih =>
    simp only [shl]
    rw [List.getD_eq_getElem?_getD, List.getElem?_set]
    by_cases c : i0 + d = t
    · rw [if_pos c, if_pos (by rw [shl_len]; omega), if_pos (by omega)]
      rw [Option.getD_some, show i0 + 1 + d = t + 1 by omega]
    · rw [if_neg c, ← List.getD_eq_getElem?_getD, ih (by omega)]
      by_cases c2 : i0 ≤ t ∧ t < i0 + d
      · rw [if_pos c2, if_pos (by omega)]
      · rw [if_neg c2, if_neg (by omega)]
theorem shl_take (ks : List Int) (i0 d : Nat) (h : i0 + 1 + d = ks.length) (x : Int) : ((shl ks i0 d).set (i0 + d) x).take (i0 + d) = ks.eraseIdx i0 := by
  apply List.ext_getElem
  · rw [List.length_take, List.length_set, shl_len, List.length_eraseIdx, if_pos (by omega)]; omega
  · intro t h1 h2
    have ht : t < i0 + d := by rw [List.length_take] at h1; omega
    rw [List.getElem_take, List.getElem_set, if_neg (by omega)]
    have := shl_get ks i0 d t (by omega)
    rw [List.getD_eq_getElem?_getD, List.getElem?_eq_getElem (by rw [shl_len]; omega), Option.getD_some] at this
    rw [this, List.getElem_eraseIdx]
    by_cases c : t < i0
    · rw [if_neg (by omega), dif_pos c, List.getD_eq_getElem?_getD, List.getElem?_eq_getElem (by omega)]; rfl
    · rw [if_pos (by omega), dif_neg c, List.getD_eq_getElem?_getD, List.getElem?_eq_getElem (by omega)]; rfl
theorem zero27 (w : World) : (zeroValue 27).run Try.prog w = .ok (.int .u64 0) w := by kernel_rfl
theorem run_clear_one {w : World} {b o c : Nat} {x : Value} (hc : w.cell? ⟨b, o, none⟩ = some x) (hf : w.frozen? ⟨b, o, none⟩ = false) :
    (Builtin.clear_ #[33] 0 #[.slice (some ⟨b, o, none⟩) 1 c]).run Try.prog w = .ok (.tuple #[]) (w.setCell ⟨b, o, none⟩ (.int .u64 0)) := by
  have hz : (Builtin.zeroCells #[Value.int .u64 0] 1).toList = [.int .u64 0] := by kernel_rfl
  simp [Builtin.clear_, run_underlying Try.underlying33, zero27, hz, storeCells, go_sem, hc, hf, Result.andThen]
set_option maxRecDepth 10000 in
set_option maxHeartbeats 4000000 in
theorem delf_calls {w : World} {base : Nat} {ok : Nat → Prop} {Bx : Nat} {id : Int} {b cap : Nat} {ks : List Int} (hR : (Kd.int .u64).R 27 w base ok (.slice (some ⟨b, 0, none⟩) ks.length cap) ks) (hbx : w.heap[Bx]? = some (.cells #[.int .u64 id] 27 (0, 0))) (hxb : Bx ≠ b) (hn : ks.length ≤ 100000) {i0 d0 : Nat} (hd0 : i0 + 1 + d0 = ks.length) (hid : ks.getD i0 0 = id) (hne : ∀ j, j < ks.length → j ≠ i0 → ks.getD j 0 ≠ id) (hbb : base ≤ b) :
    Calls Try.prog 28 #[.slice (some ⟨b, 0, none⟩) ks.length cap, .func (.func 29) #[] #[.pointer (some ⟨Bx, 0, none⟩)]] w fun e w' => e = .returned (.slice (some ⟨b, 0, none⟩) (i0 + d0) cap) ∧ (Kd.int .u64).R 27 w' base ok (.slice (some ⟨b, 0, none⟩) (i0 + d0) cap) (ks.eraseIdx i0) ∧ w.grownBy w' (some b) := by
  have hcap : ks.length ≤ cap := (Kd.R_reads' hR).2.1
  obtain ⟨ii, hii, hz0, hz1, hz2⟩ := info_parts info27
  have hcell : ∀ j, j < ks.length → w.cell? ⟨b, j, none⟩ = some (.int .u64 (ks.getD j 0)) := fun j hj => by
    obtain ⟨b', c', he, hc, _⟩ := row_at hR hj
    injection he with he _ _
    injection he with he
    injection he with he
    subst he
    exact hc
  have hix := index_calls (blk1_0 hbx) (fun j => ks.getD j 0) hcell (i0 := i0) (cap := cap) (by omega) (by omega) hid (fun j hj => hne j (by omega) (by omega))
  have HR := Aside0.mk hR
  have HNE := Aside0.mk hne
  have HID := Aside0.mk hid
  clear hR hcell hne hid
  obtain ⟨n, hnn⟩ : ∃ n, n = ks.length := ⟨_, rfl⟩
  have hm1 : (binOp .eql 3 (.int .i64 i0) (.int .i64 (-1))).run Try.prog w = .ok (.bool false) w := by go_simp
  go_enter Try.func28, Try.ntmps28
  go_wp2_with (go_at_call 33; refine hix.mono ?_; rintro e w1 ⟨rfl, hw1⟩; obtain rfl : w = w1 := hw1.symm)
  rw [show ((i0 : Int) == -1) = false by simp]
  go_loopw [5, 6] (fun vi vj wr => ∃ d : Nat, d ≤ d0 ∧ vi = .int .i64 (i0 + d : Nat) ∧ vj = .int .i64 (i0 + 1 + d : Nat) ∧ Aside0 ((Kd.int .u64).R 27 wr base ok (.slice (some ⟨b, 0, none⟩) ks.length cap) (shl ks i0 d)) ∧ Aside0 (w.grownBy wr (some b))) (fun vi vj _ => (ks.length - (intOf vj).toNat))
  case atStart => exact ⟨0, Nat.zero_le _, rfl, rfl, HR, Aside0.mk ⟨rfl, rfl, rfl, Nat.le_refl _, fun _ _ _ => rfl⟩⟩
  case round =>
    obtain ⟨d, hd, rfl, rfl, hRd, hgd⟩ := hrel
    by_cases hlt : d < d0
    · obtain ⟨j, hj⟩ : ∃ j, j = i0 + 1 + d := ⟨_, rfl⟩
      obtain ⟨q, hq⟩ : ∃ q, q = i0 + d := ⟨_, rfl⟩
      have hjl : j < ks.length := by omega
      have hql : q < ks.length := by omega
      have hRj := hRd.out
      have hgd1 := hgd.out
      have rj := row_at hRj (i := j) (by rw [shl_len]; exact hjl)
      have rq := row_at hRj (i := q) (by rw [shl_len]; exact hql)
      rw [shl_len] at rj rq
      obtain ⟨b', c', he, ej, _⟩ := rj
      injection he with he _ hcc; injection he with he; injection he with he
      subst he hcc
      obtain ⟨b'', c'', he, eq, fq⟩ := rq
      injection he with he _ hcc; injection he with he; injection he with he
      subst he hcc
      rw [shl_get _ _ _ _ (by omega), if_neg (by omega)] at ej
      obtain ⟨x, hx⟩ : ∃ x, x = ks.getD j 0 := ⟨_, rfl⟩
      rw [← hx] at ej
      have hbw := blk1_0 ((hgd1.block Bx (lt_blk hbx) (by simpa using hxb)).trans hbx)
      have hxi : (x == id) = false := by rw [hx]; simpa using HNE.out j hjl (by omega)
      have hput := Kd.R_put (enc := Value.int .u64) (h1 := fun _ => rfl) (xs := shl ks i0 d) (by rw [shl_len]; exact hRj) (q : Int) x
      rw [Int.toNat_natCast, shl_len, hq] at hput
      have hsh : (shl ks i0 d).set (i0 + d) x = shl ks i0 (d + 1) := by rw [hx, hj]; rfl
      rw [hsh] at hput
      rw [← hq] at hput
      have HP := Aside0.mk hput
      have HJ := Aside0.mk hj
      have HQ := Aside0.mk hq
      rw [← hj, ← hq]
      have h1 : 0 ≤ (j : Int) ∧ (j : Int) < (ks.length : Int) := by omega
      have h2 : (j : Int) < (ks.length : Int) := by omega
      have h3 : 0 ≤ (q : Int) ∧ (q : Int) < (ks.length : Int) := by omega
      clear hj hq hx hput hsh hRj hgd1
      go_wp2_with (go_at_call 29; refine (drop1_calls x hbw).mono ?_; rw [hxi]; rintro e w2 ⟨rfl, hw2⟩; obtain rfl : wr = w2 := hw2.symm)
      go_roundw
      case rel => exact ⟨d + 1, by omega, by have := HQ.out; congr 1; omega, by have := HJ.out; congr 1; omega, Aside0.mk HP.out.1, Aside0.mk (World.grownBy.trans hgd.out HP.out.2)⟩
      case measure => simp [intOf]; omega
    · obtain rfl : d = d0 := by omega
      obtain ⟨q, hq⟩ : ∃ q, q = i0 + d := ⟨_, rfl⟩
      have hRj := hRd.out
      have rq := row_at hRj (i := q) (by rw [shl_len]; omega)
      rw [shl_len] at rq
      obtain ⟨b'', c'', he, eq, fq⟩ := rq
      injection he with he _ hcc; injection he with he; injection he with he
      subst he hcc
      have hnq : ks.length = q + 1 := by omega
      have hput := Kd.R_put (enc := Value.int .u64) (h1 := fun _ => rfl) (xs := shl ks i0 d) (by rw [shl_len]; exact hRj) (q : Int) 0
      rw [Int.toNat_natCast, shl_len] at hput
      have htk := Kd.R_take hput.1 (m := q) (by rw [List.length_set, shl_len]; omega)
      rw [hq, shl_take ks i0 d (by omega) 0] at htk
      rw [← hq] at htk
      have hs1 := cut_from (P := Try.prog) 33 27 .i64 Try.underlying33 hii 1 hz1 (some ⟨b, 0, none⟩) ks.length cap (q : Int) (by omega) (by omega)
      rw [Int.toNat_natCast, if_neg (by omega), show ks.length - q = 1 by omega] at hs1
      simp only [Option.map_some, Addr.add, Nat.mul_one, Nat.zero_add] at hs1
      have hs2 := cut_to (P := Try.prog) 33 27 .i64 Try.underlying33 hii (some ⟨b, 0, none⟩) ks.length cap (q : Int) (by omega) (by omega) hcap
      rw [Int.toNat_natCast] at hs2
      have hclr := run_clear_one (c := cap - q) eq fq
      have HT := Aside0.mk htk
      have HG := Aside0.mk (World.grownBy.trans hgd.out hput.2)
      have HQ := Aside0.mk hq
      have h1 : ((i0 + 1 + d : Nat) : Int) = (ks.length : Int) := by omega
      rw [h1, ← hq]
      clear hq hput htk hRj h1
      go_wp2_with fail
      go_ret
      rw [← HQ.out]
      exact ⟨rfl, HT.out, HG.out⟩
end Go.Proofs.Ytjnpbikalamchaa.Tr
