/- result.Plain, walked by hand: results whose handles are numbered as they first come. -/
import Derived.Test.YtabmmdpioennfaaMMap
import Derived.Carry
set_option linter.unusedVariables false
set_option linter.unusedSimpArgs false
namespace Go.Proofs.Ytabmmdpioennfaa.Re
open Go.RowKit Go.Maps Go.Proofs.YtabmmdpioennfaaW.PrintWords Go.Proofs.YtabmmdpioennfaaW.PrintLast Go.Proofs.YtabmmdpioennfaaW.PrintMore
attribute [local go_sem] max2_int min2_int
def seenOf (l : List S43) : List Int := l.foldl (fun sn x => addSeen sn x.f1) []
theorem seenOf_snoc (l : List S43) (x : S43) : seenOf (l ++ [x]) = addSeen (seenOf l) x.f1 := by unfold seenOf; rw [List.foldl_append]; rfl
theorem addSeen_len (sn : List Int) (h : Int) : (addSeen sn h).length ≤ sn.length + 1 := by
  unfold addSeen; split <;> simp
theorem seenOf_len (l : List S43) : (seenOf l).length ≤ l.length := by
  suffices H : ∀ (l : List S43) (sn : List Int), (l.foldl (fun sn x => addSeen sn x.f1) sn).length ≤ sn.length + l.length by simpa [seenOf] using H l []
  intro l
  induction l with
  | nil => intro sn; simp
  | cons x t ih => intro sn; rw [List.foldl_cons]; have := ih (addSeen sn x.f1); have := addSeen_len sn x.f1; simp; omega
/-- One result, its handle as its number. -/
def plX (sn : List Int) (x : S43) : S43 := ⟨x.f0, numOf sn x.f1, x.f2, x.f3⟩
def plainF (l : List S43) : List S43 := (List.range l.length).map fun i => plX (seenOf (l.take i)) (rd_T43 l (i : Int))
theorem plainF_length (l : List S43) : (plainF l).length = l.length := by simp [plainF]
theorem plainF_get (l : List S43) (i : Nat) (h : i < l.length) : (plainF l)[i]'(by rw [plainF_length]; exact h) = plX (seenOf (l.take i)) l[i] := by
  have : rd_T43 l (i : Int) = l[i] := by unfold rd_T43; rw [Int.toNat_natCast, List.getD_eq_getElem?_getD, List.getElem?_eq_getElem h]; rfl
  simp [plainF, this]
/-- What has been laid behind k rounds. -/
def outAt (l : List S43) (k : Nat) : List S43 := (plainF l).take k ++ List.replicate (l.length - k) z43
theorem outAt_length (l : List S43) (k : Nat) (h : k ≤ l.length) : (outAt l k).length = l.length := by
  unfold outAt; rw [List.length_append, List.length_take, plainF_length, List.length_replicate]; omega
theorem outAt_zero (l : List S43) : outAt l 0 = List.replicate l.length z43 := by simp [outAt]
theorem outAt_end (l : List S43) : outAt l l.length = plainF l := by
  unfold outAt; rw [Nat.sub_self, List.replicate_zero, List.append_nil, List.take_of_length_le (by rw [plainF_length]; exact Nat.le_refl _)]
theorem outAt_succ (l : List S43) (k : Nat) (h : k < l.length) : (outAt l k).set k (plX (seenOf (l.take k)) l[k]) = outAt l (k + 1) := by
  have e1 : ((plainF l).take k).length = k := by rw [List.length_take, plainF_length]; omega
  have e2 : l.length - k = (l.length - (k + 1)) + 1 := by omega
  unfold outAt
  rw [List.set_append_right _ _ (by omega), e1, Nat.sub_self, e2, List.replicate_succ, List.set_cons_zero, List.take_succ_eq_append_getElem (by rw [plainF_length]; exact h), plainF_get l k h, List.append_assoc]
  rfl
theorem set4 (w : World) (b o : Nat) (a0 a1 a2 a3 : Value) : w.setCells b o [a0, a1, a2, a3] = (((w.setCell ⟨b, o, none⟩ a0).setCell ⟨b, o + 1, none⟩ a1).setCell ⟨b, o + 2, none⟩ a2).setCell ⟨b, o + 3, none⟩ a3 := rfl
theorem keep4 {w w1 : World} {g : Nat} (h : KeepBut w w1 g none) (o : Nat) (a0 a1 a2 a3 : Value) : KeepBut w ((((w1.setCell ⟨g, o, none⟩ a0).setCell ⟨g, o + 1, none⟩ a1).setCell ⟨g, o + 2, none⟩ a2).setCell ⟨g, o + 3, none⟩ a3) g none :=
  (((h.set_ o a0).set_ (o + 1) a1).set_ (o + 2) a2).set_ (o + 3) a3
/-- The row of results, behind the clone, and behind the store. -/
theorem row_store {W : World} {base go gm n c k : Nat} {l : List S43} {sn : List Int} (hk : k < l.length) (hsn : sn = seenOf (l.take k))
    {W4 w5 : World} (hW4 : Below W.heap.size W W4) (HS : Kd.S k43 43 W base (fun j => j ≠ gm) (.slice (some ⟨go, 0, none⟩) l.length c) (outAt l k)) {v5 : Value} (hb5 : Below W4.heap.size W4 w5) (hR5 : (Kd.int .u8).R 5 w5 W4.heap.size (fun _ => True) v5 (l[k]).f2) (hbase : base ≤ W.heap.size) (hgm : gm < W.heap.size) :
    (∃ c0 c1 c2 c3, w5.cell? ⟨go, k * 4, none⟩ = some c0 ∧ w5.cell? ⟨go, k * 4 + 1, none⟩ = some c1 ∧ w5.cell? ⟨go, k * 4 + 2, none⟩ = some c2 ∧ w5.cell? ⟨go, k * 4 + 3, none⟩ = some c3) ∧
      (w5.frozen? ⟨go, k * 4, none⟩ = false ∧ w5.frozen? ⟨go, k * 4 + 1, none⟩ = false ∧ w5.frozen? ⟨go, k * 4 + 2, none⟩ = false ∧ w5.frozen? ⟨go, k * 4 + 3, none⟩ = false) ∧
      Kd.S k43 43 ((((w5.setCell ⟨go, k * 4, none⟩ (.int .i64 (l[k]).f0)).setCell ⟨go, k * 4 + 1, none⟩ (.int .u64 (numOf sn (l[k]).f1))).setCell ⟨go, k * 4 + 2, none⟩ v5).setCell ⟨go, k * 4 + 3, none⟩ (.int .i64 (l[k]).f3)) base (fun j => j ≠ gm) (.slice (some ⟨go, 0, none⟩) l.length c) (outAt l (k + 1)) := by
  have hB : Below W.heap.size W w5 := below_step hW4 hb5
  have H1 := Kd.S_old (Kd.S_below HS hW4) hb5
  have H2 : Kd.S k43 43 w5 base (fun j => (j ≠ gm) ∧ ¬ W4.heap.size ≤ j) (.slice (some ⟨go, 0, none⟩) l.length c) (outAt l k) := Kd.S_mono H1 (fun j hj => ⟨hj.1, Nat.not_le.2 hj.2⟩)
  have hgo : go < W4.heap.size := Nat.not_le.1 (by
    obtain ⟨f, hf⟩ := H2
    exact (hf.1 go (by simp [Value.ownBlock])).2)
  obtain ⟨oki, cs, hcl, hM, hcc, hfr, hoki, hH⟩ := Kd.S_elem H2 z43 (k : Int) (by omega) (by omega)
  have hMM : ∀ k2 : Nat, (k2 : Int).toNat * k43.sz = k2 * 4 := fun k2 => by rw [Int.toNat_natCast]; rfl
  rw [hMM] at hcc hfr
  obtain ⟨v2, rfl, g2⟩ := k43_openM hM
  have hnew : k43.M w5 base (fun j => W4.heap.size ≤ j) (plX sn l[k]) [.int .i64 (l[k]).f0, .int .u64 (numOf sn (l[k]).f1), v5, .int .i64 (l[k]).f3] :=
    k43_mkM w5 base _ (plX sn l[k]) (v2 := v5) (Kd.R_lower (Kd.R_mono (Kd.R_bound hR5) (fun j hj => hj.2.1)) (Nat.le_trans hbase hW4.size))
  have HP := (Kd.S_seg hH (by omega) (by omega) (seg := [.int .i64 (l[k]).f0, .int .u64 (numOf sn (l[k]).f1), v5, .int .i64 (l[k]).f3]) (j := 0) (show 0 + 4 ≤ 4 by decide) (x' := plX sn l[k]) hnew (fun j hj => .inr hj) (fun j hj => ⟨by have := hW4.size; omega, by omega⟩)).1
  rw [hMM, Nat.add_zero, set4, Int.toNat_natCast, hsn, outAt_succ l k hk] at HP
  refine ⟨⟨_, _, _, _, hcc 0 _ rfl, hcc 1 _ rfl, hcc 2 _ rfl, hcc 3 _ rfl⟩, ⟨hfr 0, hfr 1, hfr 2, hfr 3⟩, ?_⟩
  rw [hsn]; exact HP
end Go.Proofs.Ytabmmdpioennfaa.Re
