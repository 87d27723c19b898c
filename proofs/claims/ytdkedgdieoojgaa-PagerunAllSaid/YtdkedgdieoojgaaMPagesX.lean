/- Pages that are taken and given back, beside another row of runs: the same contracts, which keep the two rows apart. -/
import Derived.Test.YtdkedgdieoojgaaMPlay
set_option linter.unusedVariables false
set_option linter.unusedSimpArgs false
namespace Go.Proofs.Ytdkedgdieoojgaa.Rn
open Go.RowKit Go.Proofs.YtdkedgdieoojgaaW.PrintWords Go.Proofs.YtdkedgdieoojgaaW.PrintLast Go.Proofs.YtdkedgdieoojgaaW.PrintMore
/-- As AL; and the free runs do not lie in block X. -/
def AX (X : Option Nat) (w : World) (base g : Nat) (P : Int) (l : List S51) (t : Int) : Prop :=
  base ≤ g ∧ ∃ v, w.heap[g]? = some (.cells #[.int .i64 P, v, .int .i64 t] 57 (0, 0)) ∧ Kd.R k51 51 w base (fun k => k ≠ g ∧ some k ≠ X) v l
theorem AX.al {X : Option Nat} {w : World} {base g : Nat} {P : Int} {l : List S51} {t : Int} (h : AX X w base g P l t) : AL w base g P l t := by
  obtain ⟨h0, v, h, hR⟩ := h
  exact ⟨h0, v, h, Kd.R_mono hR (fun k hk => hk.1)⟩
theorem AX.lt {X : Option Nat} {w : World} {base g : Nat} {P : Int} {l : List S51} {t : Int} (h : AX X w base g P l t) : g < w.heap.size := h.al.lt
theorem AX.below {X : Option Nat} {w w1 : World} {base g : Nat} {P : Int} {l : List S51} {t : Int} (h : AX X w base g P l t) (hb : Below w.heap.size w w1) : AX X w1 base g P l t := by
  have hlt := h.lt
  obtain ⟨h0, v, h, hR⟩ := h
  exact ⟨h0, v, (hb.block _ hlt).trans h, Kd.R_below hR hb⟩
/-- What is apart from no block is apart from one that is new. -/
theorem AX.new {X : Option Nat} {w : World} {base g : Nat} {P : Int} {l : List S51} {t : Int} (h : AX X w base g P l t) (b : Nat) (hb : w.heap.size ≤ b) : AX (some b) w base g P l t := by
  obtain ⟨h0, v, h, hR⟩ := h
  exact ⟨h0, v, h, Kd.R_mono (Kd.R_bound hR) (fun k hk => ⟨hk.1.1, fun e => by have := hk.2.2.1; cases e; omega⟩)⟩
theorem AX.of {w : World} {base g : Nat} {P : Int} {l : List S51} {t : Int} (h : AL w base g P l t) : AX none w base g P l t := by
  obtain ⟨h0, v, h, hR⟩ := h
  exact ⟨h0, v, h, Kd.R_mono hR (fun k hk => ⟨hk, by simp⟩)⟩
set_option maxHeartbeats 1000000 in
theorem done_calls_x {X : Option Nat} {w : World} {base g : Nat} {P : Int} {l : List S51} {t : Int} {v : Value} {m : List S51} (h : AX X w base g P l t) (hv : Kd.R k51 51 w base (fun k => k ≠ g ∧ some k ≠ X) v m) (ht : 0 ≤ t ∧ t ≤ 1000000000) (hl : l.length ≤ 1000) :
    Calls Try.prog 25 #[.pointer (some ⟨g, 0, none⟩), v] w fun e w' => e = .returned (.int .i64 0) ∧ AX X w' base g P m (t + 1 + l.length) ∧ Kept base g w w' := by
  obtain ⟨hb, u, hg, hR⟩ := h
  obtain ⟨A, c, rfl, hc, hC⟩ := Kd.R_reads hR
  obtain ⟨A2, k2, rfl, hc2, hC2⟩ := Kd.R_reads hv
  have c1 := blk3_1 hg
  have c2 := blk3_2 hg
  have f1 : w.frozen? ⟨g, 1, none⟩ = false := blk_free hg 1
  have f2 : w.frozen? ⟨g, 2, none⟩ = false := blk_free hg 2
  have HV := Aside0.mk hv
  have HG := Aside0.mk hg
  clear hv hg hR hC hc hC2 hc2
  have w1_ : IntKind.i64.wrap (1 + (l.length : Int)) = 1 + (l.length : Int) := by rw [IntKind.wrap_i64]; omega
  have w2_ : IntKind.i64.wrap (t + (1 + (l.length : Int))) = t + 1 + (l.length : Int) := by rw [IntKind.wrap_i64]; omega
  go_enter Try.func25, Try.ntmps25
  go_wp2
  go_still_tail 13, (by kernel_rfl)
  go_wp2
  go_ret
  refine ⟨rfl, ⟨hb, .slice A2 m.length k2, ?_, ?_⟩, ?_⟩
  · exact blk_put (cs := #[.int .i64 P, .slice A l.length c, .int .i64 (t + 1 + l.length)]) (blk_put HG.out 2 (.int .i64 (t + 1 + l.length)) rfl) 1 _ rfl
  · exact Kd.R_far (p := ⟨g, 1, none⟩) (Kd.R_drew (Kd.R_far (p := ⟨g, 2, none⟩) HV.out (fun _ h => h.1) _)) (fun _ h => h.1) _
  · exact (((Kept.refl base g w).set hb 2 _).set hb 1 _).drew
set_option maxHeartbeats 1000000 in
theorem take_calls_x {X : Option Nat} {w : World} {base g : Nat} {P : Int} {l : List S51} {t : Int} (h : AX X w base g P l t) (hX : ∀ x, X = some x → x < w.heap.size) (hf : fitsR l = true) (ht : 0 ≤ t ∧ t ≤ 1000000000) (n : Int) (hn : 1 ≤ n) (hb : ¬ bestF l n < 0) :
    Calls Try.prog 11 #[.pointer (some ⟨g, 0, none⟩), .int .i64 n] w fun e w' => e = .returned (.tuple #[.int .i64 (l.getD (bestF l n).toNat z51).f0, .int .i64 0]) ∧ AX X w' base g P (takeAt l (bestF l n).toNat n) (t + 1 + l.length) ∧ Kept base g w w' := by
  have hl := fitsR_len hf
  have hlt := h.lt
  have hfun := Aside0.mk (show runs_Take.f l n = some ((l.getD (bestF l n).toNat z51).f0, takeAt l (bestF l n).toNat n, true) by rw [take_is hf, if_neg hb])
  have HA := Aside0.mk h
  obtain ⟨hbg, u, hg, hR⟩ := h
  obtain ⟨A, c, rfl, hc, hC⟩ := Kd.R_reads hR
  have c1 := blk3_1 hg
  have HC := Aside0.mk hC
  have HCC := Aside0.mk hc
  have hn1 : ¬ n < 1 := by omega
  obtain ⟨p, hp⟩ : ∃ p, p = (l.getD (bestF l n).toNat z51).f0 := ⟨_, rfl⟩
  obtain ⟨m, hm⟩ : ∃ m, m = takeAt l (bestF l n).toNat n := ⟨_, rfl⟩
  rw [← hp, ← hm] at hfun ⊢
  clear hg hR hC hc hp hm
  go_enter Try.func11, Try.ntmps11
  go_wp2_with fail
  refine (runs_Take.calls _ _ _ _ _ _ _ _ HC.out HCC.out hfun.out).mono ?_
  rintro e w1 ⟨v1, rfl, hR1, hB1⟩
  have HA1 := Aside0.mk (HA.out.below hB1)
  have HV1 := Aside0.mk (Kd.R_lower (Kd.R_mono (Kd.R_bound hR1) (fun k hk => show k ≠ g ∧ some k ≠ X from ⟨by have := hk.2.1; omega, fun e => by have h1_ := hX k e.symm; have h2_ := hk.2.1; omega⟩)) (show base ≤ w.heap.size by omega))
  have HK1 := Aside0.mk (Kept.of_below (g := g) hB1 (show base ≤ w.heap.size by omega))
  clear hR1 hB1
  go_wp2_with fail
  refine (done_calls_x HA1.out HV1.out ht hl).mono ?_
  rintro e w2 ⟨rfl, hA2, hK2⟩
  have HA2 := Aside0.mk hA2
  have HK2 := Aside0.mk (HK1.out.trans hK2)
  clear hA2 hK2
  go_wp2
  go_ret2
  exact ⟨rfl, HA2.out, HK2.out⟩
set_option maxHeartbeats 1000000 in
theorem take_no_x {X : Option Nat} {w : World} {base g : Nat} {P : Int} {l : List S51} {t : Int} (h : AX X w base g P l t) (hf : fitsR l = true) (n : Int) (hn : 1 ≤ n) (hb : bestF l n < 0) :
    Calls Try.prog 11 #[.pointer (some ⟨g, 0, none⟩), .int .i64 n] w fun e w' => e = .returned (.tuple #[.int .i64 0, .int .i64 4]) ∧ AX X w' base g P l t ∧ Kept base g w w' := by
  have hlt := h.lt
  have hfun := Aside0.mk (show runs_Take.f l n = some (0, [], false) by rw [take_is hf, if_pos hb])
  have HA := Aside0.mk h
  obtain ⟨hbg, u, hg, hR⟩ := h
  obtain ⟨A, c, rfl, hc, hC⟩ := Kd.R_reads hR
  have c1 := blk3_1 hg
  have HC := Aside0.mk hC
  have HCC := Aside0.mk hc
  have hn1 : ¬ n < 1 := by omega
  clear hg hR hC hc
  go_enter Try.func11, Try.ntmps11
  go_wp2_with fail
  refine (runs_Take.calls _ _ _ _ _ _ _ _ HC.out HCC.out hfun.out).mono ?_
  rintro e w1 ⟨v1, rfl, hR1, hB1⟩
  have HA1 := Aside0.mk (HA.out.below hB1)
  have HK1 := Aside0.mk (Kept.of_below (g := g) hB1 (show base ≤ w.heap.size by omega))
  clear hR1 hB1
  go_wp2_with fail
  go_ret2
  exact ⟨rfl, HA1.out, HK1.out⟩
set_option maxHeartbeats 1000000 in
theorem give_calls_x {X : Option Nat} {w : World} {base g : Nat} {P : Int} {l : List S51} {t : Int} (h : AX X w base g P l t) (hX : ∀ x, X = some x → x < w.heap.size) (hf : fitsR l = true) (hP : 1 ≤ P ∧ P ≤ 1048576) (ht : 0 ≤ t ∧ t ≤ 1000000000) (p n : Int) (hg0 : giveOk l P p n = true) :
    Calls Try.prog 10 #[.pointer (some ⟨g, 0, none⟩), .int .i64 p, .int .i64 n] w fun e w' => e = .returned (.int .i64 0) ∧ AX X w' base g P (giveF l p n) (t + 1 + l.length) ∧ Kept base g w w' := by
  have hl := fitsR_len hf
  have hlt := h.lt
  have hfun := Aside0.mk (show runs_Give.f l P p n = some (giveF l p n, true) by rw [give_is hf (by omega), if_pos hg0])
  have HA := Aside0.mk h
  obtain ⟨hbg, u, hg, hR⟩ := h
  obtain ⟨A, c, rfl, hc, hC⟩ := Kd.R_reads hR
  have c0 := blk3_0 hg
  have c1 := blk3_1 hg
  have HC := Aside0.mk hC
  have HCC := Aside0.mk hc
  obtain ⟨m, hm⟩ : ∃ m, m = giveF l p n := ⟨_, rfl⟩
  rw [← hm] at hfun ⊢
  clear hg hR hC hc hm
  go_enter Try.func10, Try.ntmps10
  go_wp2
  go_region_held3 (fun w' => w'.cell? ⟨g, 0, none⟩ = some (.int .i64 P) ∧ w'.cell? ⟨g, 1, none⟩ = some (.slice A l.length c))
    (first | go_keep | (go_split_ands; refine ⟨?_, ?_⟩ <;> (refine pw_cell_below hB0 ?_; assumption)))
    ((go_at_call 24; refine (runs_Give.calls _ _ _ _ _ _ _ _ _ (Kd.C_drew HC.out) HCC.out hfun.out).mono ?_; rintro e w1 ⟨v1, rfl, hR0, hB0⟩))
  all_goals
   have hB1 : Below w.heap.size w w1 := (below_drew (Below.refl _ _)).trans hB0
   have hR1 : Kd.R k51 51 w1 w.heap.size (fun _ => True) v1 m := hR0
   clear hR0 hB0
  have HA1 := Aside0.mk (HA.out.below hB1)
  have HV1 := Aside0.mk (Kd.R_lower (Kd.R_mono (Kd.R_bound hR1) (fun k hk => show k ≠ g ∧ some k ≠ X from ⟨by have := hk.2.1; omega, fun e => by have h1_ := hX k e.symm; have h2_ := hk.2.1; omega⟩)) (show base ≤ w.heap.size by omega))
  have HK1 := Aside0.mk (Kept.of_below (g := g) hB1 (show base ≤ w.heap.size by omega))
  clear hR1 hB1
  go_wp2_with fail
  refine (done_calls_x HA1.out HV1.out ht hl).mono ?_
  rintro e w2 ⟨rfl, hA2, hK2⟩
  have HA2 := Aside0.mk hA2
  have HK2 := Aside0.mk (HK1.out.trans hK2)
  clear hA2 hK2
  go_wp2
  go_ret
  exact ⟨rfl, HA2.out, HK2.out⟩
end Go.Proofs.Ytdkedgdieoojgaa.Rn
