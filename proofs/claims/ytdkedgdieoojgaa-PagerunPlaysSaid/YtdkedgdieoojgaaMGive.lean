/- runs.Give: whether pages may be given back, and the runs behind it: walked, with runs.Has and runs.after by their contracts. -/
import Derived.Test.YtdkedgdieoojgaaMAfter
import Derived.Test.YtdkedgdieoojgaaMHas
import Derived.StillTailTactics
set_option linter.unusedVariables false
set_option linter.unusedSimpArgs false
namespace Go.Proofs.Ytdkedgdieoojgaa.Rn
open Go.RowKit Go.Proofs.YtdkedgdieoojgaaW.PrintWords Go.Proofs.YtdkedgdieoojgaaW.PrintLast Go.Proofs.YtdkedgdieoojgaaW.PrintMore
attribute [local go_sem] max2_int min2_int max_two min_two max_three min_three max_four min_four
/-- The runs that a run takes up, one behind the other. -/
def absorb : List S51 → S51 → S51 × List S51
  | [], r => (r, [])
  | x :: t, r => if x.f0 ≤ r.f0 + r.f1 then absorb t ⟨mn x.f0 r.f0, x.f1 + r.f1⟩ else (r, x :: t)
def giveF (l : List S51) (p n : Int) : List S51 := l.take (afterI l p) ++ (absorb (l.drop (afterI l p)) ⟨p, n⟩).1 :: (absorb (l.drop (afterI l p)) ⟨p, n⟩).2
theorem end_calls2 (a b : Int) (w : World) (ha : 0 ≤ a ∧ a ≤ 1152921504606846976) (hb : 0 ≤ b ∧ b ≤ 1152921504606846976) :
    Calls Try.prog 33 #[.agg #[.int .i64 a, .int .i64 b]] w fun e w' => e = .returned (.int .i64 (a + b)) ∧ Below w.heap.size w w' := by
  have e : runs_end.f a b = some (a + b) := by unfold runs_end.f wrap64; congr 1; omega
  exact runs_end.calls a b (a + b) w e
theorem blk2_0 {w : World} {g : Nat} {x y : Value} {t : Nat} (h : w.heap[g]? = some (.cells #[x, y] t (0, 0))) : w.cell? ⟨g, 0, none⟩ = some x := by simp [World.cell?, h]
theorem blk2_1 {w : World} {g : Nat} {x y : Value} {t : Nat} (h : w.heap[g]? = some (.cells #[x, y] t (0, 0))) : w.cell? ⟨g, 1, none⟩ = some y := by simp [World.cell?, h]
theorem blk2_set {w : World} {b : Nat} {x y : Value} {t : Nat} (h : w.heap[b]? = some (.cells #[x, y] t (0, 0))) (u v : Value) : ((w.setCell ⟨b, 0, none⟩ u).setCell ⟨b, 1, none⟩ v).heap[b]? = some (.cells #[u, v] t (0, 0)) := by
  have h1 : (w.setCell ⟨b, 0, none⟩ u).heap[b]? = some (.cells #[u, y] t (0, 0)) := by
    rw [setCell_eq_setRow w b _ _ t (0, 0) _ h, setRow_heap w b _ _ t _ h]; simp
  rw [setCell_eq_setRow _ b _ _ t (0, 0) _ h1, setRow_heap _ b _ _ t _ h1]; simp
theorem mn_if (a b : Int) : mn a b = if b < a then b else a := rfl
theorem give_end {l0 : List S51} {p n : Int} {i k : Nat} {r : S51} {W : World} {base : Nat} {ok : Nat → Prop} {v : Value} (hi : i = afterI l0 p) (hab : absorb (l0.drop k) r = absorb (l0.drop i) ⟨p, n⟩) (hgo : absorb (l0.drop k) r = (r, l0.drop k))
    (h : Kd.R k51 51 W base ok v (l0.take i ++ [r] ++ l0.drop k)) : Kd.R k51 51 W base (fun _ => True) v (giveF l0 p n) := by
  have e : giveF l0 p n = l0.take i ++ [r] ++ l0.drop k := by unfold giveF; rw [← hi, ← hab, hgo]; simp
  rw [e]; exact Kd.R_mono h (fun _ _ => trivial)
set_option maxHeartbeats 4000000 in
theorem give_yes (A0 : Option Addr) (c0 : Nat) (l0 : List S51) (P p n : Int) (w : World) (hr0 : Kd.C k51 w A0 l0.length l0) (hc0 : l0.length ≤ c0) (hf : fitsR l0 = true)
    (hp : 0 ≤ p) (hn : 1 ≤ n) (hP : P ≤ 1099511627776) (hpn : p ≤ P - n) (hh : l0.any (fun x => hasB x p n) = false) :
    Calls Try.prog 24 #[.slice A0 l0.length c0, .int .i64 P, .int .i64 p, .int .i64 n] w fun e w' => ∃ v0_ : Value, e = .returned (.tuple #[v0_, .bool true]) ∧
      Kd.R k51 51 w' w.heap.size (fun _ => True) v0_ (giveF l0 p n) ∧ Below w.heap.size w w' := by
  have hl := fitsR_len hf
  have HC := Aside0.mk hr0
  have HCC := Aside0.mk hc0
  have HF := Aside0.mk hf
  have HH := Aside0.mk hh
  have t1 : ¬ p < 0 := by omega
  have t2 : ¬ n < 1 := by omega
  have t3 : ¬ P < n := by omega
  have t4 : ¬ P - n < p := by omega
  obtain ⟨i0, hi0, hz0, hz1, hz2⟩ := info_parts info51
  obtain ⟨i, hi⟩ : ∃ i, i = afterI l0 p := ⟨_, rfl⟩
  have hil : i ≤ l0.length := by rw [hi]; exact afterI_le l0 p
  have haft := Aside0.mk (after_is l0 p hf)
  have HI := Aside0.mk hi
  have hcut : ∀ W : World, (Instr.slice 32 (.slice A0 l0.length c0) none (some (.int .i64 (i : Int))) none).run Try.prog W = .ok (.slice A0 i c0) W := by
    have := cut_to (P := Try.prog) 32 51 .i64 Try.underlying32 hi0 A0 l0.length c0 (i : Int) (by omega) (by omega) hc0
    simpa only [Int.toNat_natCast] using this
  clear hr0 hc0 hf hh hi
  go_enter Try.func24, Try.ntmps24
  go_wp2_with fail
  refine (has_calls _ _ _ _ _ _ HC.out HF.out (by omega) (by omega)).mono ?_
  rintro e w1 ⟨rfl, hb⟩
  rw [HH.out]
  have HB1 := Aside0.mk hb
  have HC1 := Aside0.mk (Kd.C_below HC.out hb)
  clear hb
  go_wp2_with fail
  refine (runs_after.calls _ _ _ _ _ _ _ HC1.out HCC.out haft.out).mono ?_
  rintro e w2 ⟨rfl, hb⟩
  rw [← HI.out]
  have HB2 := Aside0.mk (below_step HB1.out hb)
  have HC2 := Aside0.mk (Kd.C_below HC1.out hb)
  clear hb
  go_wp2_with (at_builtin; go_must (refine Kd.R_append_rows k51 (Rr := k51.K w2) w.heap.size rfl _ _ 32 51 _ 16 rfl Try.underlying32 info51 rfl (by decide) (by decide) (.slice none 0 0) [] (l0.take i) A0 i c0 (fun _ => True) (fun _ => True) rfl rfl (Kd.R_nil _ _ _ _ _) ?h1 ?h2 ?h3 (fun _ _ => trivial) HB2.out ?h4 ?h5 ?_))
  case h1 => have := Kd.C_take HC2.out hil; rw [List.length_take, Nat.min_eq_left hil] at this; exact this
  case h2 => intro x cs hx; obtain rfl := k51_open hx; exact k51_mkM _ _ _ x
  case h3 => intro k _; exact ⟨trivial, by simp [Value.ownBlock]⟩
  case h4 => exact HB2.out.size
  case h5 => simp; omega
  intro v1 w3 hR hB3 _ _
  obtain ⟨A1, c1, hv⟩ := Kd.R_slice hR
  rw [List.length_take, Nat.min_eq_left hil] at hv
  subst hv
  have HB3 := Aside0.mk hB3
  have HC3 := Aside0.mk (Kd.C_below HC.out hB3)
  have HR3 := Aside0.mk (show Kd.R k51 51 w3 w.heap.size (fun k => k ≠ w3.heap.size) (.slice A1 i c1) (l0.take i) from Kd.R_mono (Kd.R_bound hR) (fun k hk => by have := hk.2.2.1; omega))
  clear hR hB3 hcut
  go_wp2
  have hn40 : n ≤ 1099511627776 := by omega
  have HB4 : Below w.heap.size w (w3.alloc (.cells #[.int .i64 p, .int .i64 n] 51)) := below_alloc HB3.out _
  have hbs : w.heap.size ≤ w3.heap.size := HB3.out.size
  go_loopw [10] (fun v wr => ∃ (k : Nat) (r : S51), k ≤ l0.length ∧ i ≤ k ∧ v = .int .i64 k ∧ (0 ≤ r.f0 ∧ r.f0 ≤ 1099511627776 ∧ 0 ≤ r.f1 ∧ r.f1 ≤ 1099511627776 * ((k : Int) + 1)) ∧
      Aside0 (absorb (l0.drop k) r = absorb (l0.drop i) ⟨p, n⟩) ∧ Aside0 (wr.heap[w3.heap.size]? = some (.cells #[.int .i64 r.f0, .int .i64 r.f1] 51 (0, 0))) ∧
      Aside0 (Kd.R k51 51 wr w.heap.size (fun k => k ≠ w3.heap.size) (.slice A1 i c1) (l0.take i)) ∧ Aside0 (Below w.heap.size w wr)) (fun v _ => l0.length - (intOf v).toNat)
  case atStart => exact ⟨i, ⟨p, n⟩, hil, Nat.le_refl _, rfl, ⟨hp, by show p ≤ _; omega, by show 0 ≤ n; omega, by show n ≤ _; omega⟩, ⟨rfl⟩, ⟨heap_alloc_new w3 _⟩, ⟨Kd.R_below HR3.out (below_alloc (Below.refl _ _) _)⟩, ⟨HB4⟩⟩
  case round =>
    obtain ⟨k, r, hk, hik, rfl, hbd, hab, hbl, hR, hB⟩ := hrel
    obtain ⟨r1, r2, r3, r4⟩ := hbd
    have b1 := blk2_0 hbl.out
    have b2 := blk2_1 hbl.out
    clear HB4
    by_cases hlt : k < l0.length
    · have hx := List.getElem?_eq_getElem hlt
      have hm := fitsR_mem HF.out (List.getElem_mem hlt)
      obtain ⟨ad, hA, e1, e2⟩ := at_T51 (Kd.C_below HC.out hB.out) (k : Int) (by omega) (by omega)
      have hx2 : rd_T51 l0 k = l0[k] := by unfold rd_T51; simp [List.getD_eq_getElem?_getD, hlt]
      rw [hx2] at e1 e2
      simp only [Int.toNat_natCast] at e1 e2
      obtain ⟨x, hxx⟩ : ∃ x, x = l0[k] := ⟨_, rfl⟩
      rw [← hxx] at e1 e2 hm hx
      have HX := Aside0.mk hx
      have HXX := Aside0.mk hxx
      have HA := Aside0.mk hA
      subst hA
      have HX2 := Aside0.mk (show l0.drop k = x :: l0.drop (k + 1) by rw [hxx]; exact List.drop_eq_getElem_cons hlt)
      clear hx hxx hx2
      have hin : 0 ≤ (k : Int) ∧ (k : Int) < (l0.length : Int) := by omega
      have hin2 : (k : Int) < (l0.length : Int) := by omega
      by_cases ht : x.f0 ≤ r.f0 + r.f1
      · go_wp2
        go_region_held3 (fun w' => w'.cell? ⟨w3.heap.size, 0, none⟩ = some (.int .i64 r.f0) ∧ w'.cell? ⟨w3.heap.size, 1, none⟩ = some (.int .i64 r.f1) ∧
            w'.cell? (ad.add (k * 2)) = some (.int .i64 x.f0) ∧ w'.cell? ⟨(ad.add (k * 2)).block, (ad.add (k * 2)).off + 1, none⟩ = some (.int .i64 x.f1))
          (first | go_keep | (go_split_ands; refine ⟨?_, ?_, ?_, ?_⟩ <;> (refine pw_cell_below hb5 ?_; assumption)))
          ((go_at_call 33; refine (end_calls2 _ _ _ (by omega) (by omega)).mono ?_; rintro e w5 ⟨rfl, hb5⟩))
        all_goals
          have hbl5 : w5.heap[w3.heap.size]? = some (.cells #[.int .i64 r.f0, .int .i64 r.f1] 51 (0, 0)) := (hb5.block _ (Array.getElem?_eq_some_iff.1 hbl.out).1).trans hbl.out
          have f1 : w5.frozen? ⟨w3.heap.size, 0, none⟩ = false := blk_free hbl5 0
          have f2 : w5.frozen? ⟨w3.heap.size, 1, none⟩ = false := blk_free hbl5 1
          have HBL5 := Aside0.mk hbl5
          have HB5 := Aside0.mk (hB.out.trans (below_of hb5 hB.out))
          have HR5 := Aside0.mk (Kd.R_below (w := wr.drew) hR.out hb5)
          clear hbl5 hb5 e1 e2 b1 b2
        all_goals go_wp2
        all_goals go_still_tail 17, (by kernel_rfl)
        all_goals go_wp2
        all_goals go_roundw
        case rel =>
          refine ⟨k + 1, ⟨mn x.f0 r.f0, x.f1 + r.f1⟩, by omega, by omega, by go_num, ⟨?_, ?_, ?_, ?_⟩, ⟨?_⟩, ⟨?_⟩, ⟨?_⟩, ⟨?_⟩⟩
          · show 0 ≤ mn x.f0 r.f0; rw [mn_if]; split <;> omega
          · show mn x.f0 r.f0 ≤ _; rw [mn_if]; split <;> omega
          · show 0 ≤ x.f1 + r.f1; omega
          · show x.f1 + r.f1 ≤ _; omega
          · rw [← hab.out, HX2.out]; simp only [absorb]; rw [if_pos ht]
          · exact blk2_set HBL5.out _ _
          · exact Kd.R_far (p := ⟨w3.heap.size, 1, none⟩) (Kd.R_far (p := ⟨w3.heap.size, 0, none⟩) HR5.out (fun _ h => h) _) (fun _ h => h) _
          · exact ((HB5.out.setCell (p := ⟨w3.heap.size, 0, none⟩) hbs _).setCell (p := ⟨w3.heap.size, 1, none⟩) hbs _).drew
        case measure => simp [intOf]; omega
      · go_wp2
        go_region_held3 (fun w' => w'.cell? ⟨w3.heap.size, 0, none⟩ = some (.int .i64 r.f0) ∧ w'.cell? ⟨w3.heap.size, 1, none⟩ = some (.int .i64 r.f1) ∧
            w'.cell? (ad.add (k * 2)) = some (.int .i64 x.f0) ∧ w'.cell? ⟨(ad.add (k * 2)).block, (ad.add (k * 2)).off + 1, none⟩ = some (.int .i64 x.f1))
          (first | go_keep | (go_split_ands; refine ⟨?_, ?_, ?_, ?_⟩ <;> (refine pw_cell_below hb5 ?_; assumption)))
          ((go_at_call 33; refine (end_calls2 _ _ _ (by omega) (by omega)).mono ?_; rintro e w5 ⟨rfl, hb5⟩))
        all_goals
          have hbl5 : w5.heap[w3.heap.size]? = some (.cells #[.int .i64 r.f0, .int .i64 r.f1] 51 (0, 0)) := (hb5.block _ (Array.getElem?_eq_some_iff.1 hbl.out).1).trans hbl.out
          have HB5 := Aside0.mk (hB.out.trans (below_of hb5 hB.out))
          have HR5 := Aside0.mk (Kd.R_below (w := wr.drew) hR.out hb5)
          have hgo := Aside0.mk (show absorb (l0.drop k) r = (r, l0.drop k) by rw [HX2.out]; simp only [absorb]; rw [if_neg (by omega)])
          clear hb5 e1 e2 b1 b2 HX2
        all_goals
          have c1_ := blk2_0 hbl5
          have c2_ := blk2_1 hbl5
          have hcut2 := cut_from (P := Try.prog) 32 51 .i64 Try.underlying32 hi0 2 hz1 (some ad) l0.length c0 (k : Int) (by omega) (by omega)
          have hdr := Kd.C_drop HC.out hk HCC.out
          rw [List.length_drop] at hdr
          obtain ⟨A3, hA3⟩ : ∃ A3, A3 = (if c0 = k then (some ad) else ((some ad)).map (·.add (k * 2))) := ⟨_, rfl⟩
          simp only [Int.toNat_natCast] at hcut2
          rw [← hA3] at hcut2
          have HDR := Aside0.mk (show Kd.C k51 w A3 (l0.length - k) (l0.drop k) by rw [hA3]; exact hdr)
          have HBL5 := Aside0.mk hbl5
          have hlt5 : w3.heap.size < w5.heap.size := (Array.getElem?_eq_some_iff.1 hbl5).1
          have htk : (l0.take i).length = i := by rw [List.length_take, Nat.min_eq_left hil]
          have HTK := Aside0.mk htk
          clear hbl5 hdr hA3 htk
        all_goals go_wp2
        all_goals go_region_law (first | (refine Kd.R_append_step (w0 := w) (W := w5.drew) k51 w.heap.size (by simp [Region.wanted]) (.tmp 80) (.tmp 82) 32 51 _ 16 rfl Try.underlying32 info51 rfl (by decide) (by decide) (.slice A1 i c1) (l0.take i) r [.int .i64 r.f0, .int .i64 r.f1] (fun k => k ≠ w3.heap.size) (fun _ => False) (by simp [Act.eval, Act.put]) (by simp [Act.eval, Act.put]) (k51_mkM _ _ _ r) (fun _ h => h.elim) (fun k h => by simp at h; omega) (Kd.R_below HR5.out (Below.refl _ _).drew) (below_drew HB5.out) HB5.out.size (by rw [HTK.out]; omega) ?_; intro v2 w6 hR6 hB6 hg6 hat6; obtain ⟨A2, c2, hv2⟩ := Kd.R_slice hR6; rw [List.length_append, HTK.out] at hv2; subst hv2; have HR6 := Aside0.mk hR6; have HB6 := Aside0.mk hB6; have HG6 := Aside0.mk hg6; clear hR6 hB6 hg6 hat6) | (refine Kd.R_append_rows_step (w0 := w) (W := w6) (Rr := k51.K w6) k51 w.heap.size (by simp [Region.wanted]) (.tmp 83) (.tmp 86) 32 51 _ 16 rfl Try.underlying32 info51 rfl (by decide) (by decide) (.slice A2 (i + 1) c2) (l0.take i ++ [r]) (l0.drop k) A3 (l0.length - k) (c0 - k) (fun k => k ≠ w3.heap.size) (fun _ => False) (by simp [Act.eval, Act.put]) (by simp [Act.eval, Act.put]) HR6.out (Kd.C_below HDR.out HB6.out) (fun x cs hx => by rw [k51_open hx]; exact k51_mkM _ _ _ x) (fun _ h => h.elim) (fun k h => by have h1 := HG6.out.size; have h2 : w5.drew.heap.size = w5.heap.size := rfl; omega) HB6.out HB6.out.size (by rw [List.length_append, HTK.out, List.length_singleton]; omega) ?_; intro v3 w7 hR7 hB7 hg7 hat7; have HR7 := Aside0.mk hR7; have HB7 := Aside0.mk hB7; clear hR7 hB7 hg7 hat7))
        all_goals go_wp2
        all_goals go_ret2
        all_goals exact ⟨_, rfl, give_end HI.out hab.out hgo.out HR7.out, HB7.out⟩
    · go_wp2
      go_quiet (fail)
      obtain ⟨w5, hw5⟩ : ∃ w5, w5 = wr.drewN nq := ⟨_, rfl⟩
      rw [← hw5]
      have hbl5 : w5.heap[w3.heap.size]? = some (.cells #[.int .i64 r.f0, .int .i64 r.f1] 51 (0, 0)) := by rw [hw5]; exact hbl.out
      have HB5 := Aside0.mk (show Below w.heap.size w w5 by rw [hw5]; exact pw_below_drewN hB.out _)
      have HR5 := Aside0.mk (show Kd.R k51 51 w5 w.heap.size (fun k => k ≠ w3.heap.size) (.slice A1 i c1) (l0.take i) by rw [hw5]; exact Kd.R_below hR.out (pw_below_drewN (Below.refl _ _) _))
      have hgo := Aside0.mk (show absorb (l0.drop k) r = (r, l0.drop k) by rw [List.drop_eq_nil_of_le (by omega)]; rfl)
      clear hw5 b1 b2
      all_goals
        have c1_ := blk2_0 hbl5
        have c2_ := blk2_1 hbl5
        have hcut2 := cut_from (P := Try.prog) 32 51 .i64 Try.underlying32 hi0 2 hz1 A0 l0.length c0 (k : Int) (by omega) (by omega)
        have hdr := Kd.C_drop HC.out hk HCC.out
        rw [List.length_drop] at hdr
        obtain ⟨A3, hA3⟩ : ∃ A3, A3 = (if c0 = k then A0 else (A0).map (·.add (k * 2))) := ⟨_, rfl⟩
        simp only [Int.toNat_natCast] at hcut2
        rw [← hA3] at hcut2
        have HDR := Aside0.mk (show Kd.C k51 w A3 (l0.length - k) (l0.drop k) by rw [hA3]; exact hdr)
        have HBL5 := Aside0.mk hbl5
        have hlt5 : w3.heap.size < w5.heap.size := (Array.getElem?_eq_some_iff.1 hbl5).1
        have htk : (l0.take i).length = i := by rw [List.length_take, Nat.min_eq_left hil]
        have HTK := Aside0.mk htk
        clear hbl5 hdr hA3 htk
      all_goals go_wp2
      all_goals go_region_law (first | (refine Kd.R_append_step (w0 := w) (W := w5.drew) k51 w.heap.size (by simp [Region.wanted]) (.tmp 80) (.tmp 82) 32 51 _ 16 rfl Try.underlying32 info51 rfl (by decide) (by decide) (.slice A1 i c1) (l0.take i) r [.int .i64 r.f0, .int .i64 r.f1] (fun k => k ≠ w3.heap.size) (fun _ => False) (by simp [Act.eval, Act.put]) (by simp [Act.eval, Act.put]) (k51_mkM _ _ _ r) (fun _ h => h.elim) (fun k h => by simp at h; omega) (Kd.R_below HR5.out (Below.refl _ _).drew) (below_drew HB5.out) HB5.out.size (by rw [HTK.out]; omega) ?_; intro v2 w6 hR6 hB6 hg6 hat6; obtain ⟨A2, c2, hv2⟩ := Kd.R_slice hR6; rw [List.length_append, HTK.out] at hv2; subst hv2; have HR6 := Aside0.mk hR6; have HB6 := Aside0.mk hB6; have HG6 := Aside0.mk hg6; clear hR6 hB6 hg6 hat6) | (refine Kd.R_append_rows_step (w0 := w) (W := w6) (Rr := k51.K w6) k51 w.heap.size (by simp [Region.wanted]) (.tmp 83) (.tmp 86) 32 51 _ 16 rfl Try.underlying32 info51 rfl (by decide) (by decide) (.slice A2 (i + 1) c2) (l0.take i ++ [r]) (l0.drop k) A3 (l0.length - k) (c0 - k) (fun k => k ≠ w3.heap.size) (fun _ => False) (by simp [Act.eval, Act.put]) (by simp [Act.eval, Act.put]) HR6.out (Kd.C_below HDR.out HB6.out) (fun x cs hx => by rw [k51_open hx]; exact k51_mkM _ _ _ x) (fun _ h => h.elim) (fun k h => by have h1 := HG6.out.size; have h2 : w5.drew.heap.size = w5.heap.size := rfl; omega) HB6.out HB6.out.size (by rw [List.length_append, HTK.out, List.length_singleton]; omega) ?_; intro v3 w7 hR7 hB7 hg7 hat7; have HR7 := Aside0.mk hR7; have HB7 := Aside0.mk hB7; clear hR7 hB7 hg7 hat7))
      all_goals go_wp2
      all_goals go_ret2
      all_goals exact ⟨_, rfl, give_end HI.out hab.out hgo.out HR7.out, HB7.out⟩
/-- May pages be given back? -/
def giveOk (l : List S51) (P p n : Int) : Bool := decide (0 ≤ p) && (decide (1 ≤ n) && (decide (n ≤ P) && (decide (p ≤ P - n) && !l.any (fun x => hasB x p n))))
set_option maxHeartbeats 1000000 in
theorem give_bad (A0 : Option Addr) (c0 : Nat) (l0 : List S51) (P p n : Int) (w : World) (hP : -9223372036854775808 ≤ P ∧ P ≤ 1099511627776) (h : p < 0 ∨ (0 ≤ p ∧ n < 1) ∨ (0 ≤ p ∧ 1 ≤ n ∧ P < n) ∨ (0 ≤ p ∧ 1 ≤ n ∧ n ≤ P ∧ P - n < p)) :
    Calls Try.prog 24 #[.slice A0 l0.length c0, .int .i64 P, .int .i64 p, .int .i64 n] w fun e w' => e = .returned (.tuple #[.slice none 0 0, .bool false]) ∧ Below w.heap.size w w' := by
  rcases h with h | ⟨h1, h2⟩ | ⟨h1, h2, h3⟩ | ⟨h1, h2, h3, h4⟩
  all_goals go_enter Try.func24, Try.ntmps24
  all_goals go_wp2_with fail
  all_goals go_ret2
  all_goals exact ⟨rfl, Below.refl _ _⟩
set_option maxHeartbeats 1000000 in
theorem give_had (A0 : Option Addr) (c0 : Nat) (l0 : List S51) (P p n : Int) (w : World) (hr0 : Kd.C k51 w A0 l0.length l0) (hf : fitsR l0 = true)
    (hp : 0 ≤ p) (hn : 1 ≤ n) (hP : P ≤ 1099511627776) (hpn : p ≤ P - n) (hh : l0.any (fun x => hasB x p n) = true) :
    Calls Try.prog 24 #[.slice A0 l0.length c0, .int .i64 P, .int .i64 p, .int .i64 n] w fun e w' => e = .returned (.tuple #[.slice none 0 0, .bool false]) ∧ Below w.heap.size w w' := by
  have HC := Aside0.mk hr0
  have HF := Aside0.mk hf
  have HH := Aside0.mk hh
  have t1 : ¬ p < 0 := by omega
  have t2 : ¬ n < 1 := by omega
  have t3 : ¬ P < n := by omega
  have t4 : ¬ P - n < p := by omega
  clear hr0 hf hh
  go_enter Try.func24, Try.ntmps24
  go_wp2_with fail
  refine (has_calls _ _ _ _ _ _ HC.out HF.out (by omega) (by omega)).mono ?_
  rintro e w1 ⟨rfl, hb⟩
  rw [HH.out]
  have HB1 := Aside0.mk hb
  clear hb
  go_wp2_with fail
  go_ret2
  exact ⟨rfl, HB1.out⟩
def runs_Give.f (l0 : List S51) (a1 a2 a3 : Int) : Option ((List (S51)) × Bool) :=
  if fitsR l0 = true ∧ -9223372036854775808 ≤ a1 ∧ a1 ≤ 1099511627776 then (if giveOk l0 a1 a2 a3 = true then some (giveF l0 a2 a3, true) else some ([], false)) else none
theorem runs_Give.calls (A0 : Option Addr) (c0 : Nat) (l0 : List (S51)) (a1 : Int) (a2 : Int) (a3 : Int) (r1 : List (S51)) (r2 : Bool) (w : World) (hr0 : Kd.C k51 w A0 l0.length l0) (hc0 : l0.length ≤ c0) (h : runs_Give.f l0 a1 a2 a3 = some (r1, r2)) :
    Calls Try.prog 24 #[.slice A0 l0.length c0, .int .i64 a1, .int .i64 a2, .int .i64 a3] w fun e w' => ∃ v0_ : Value, e = .returned (.tuple #[v0_, .bool r2]) ∧ Kd.R k51 51 w' w.heap.size (fun _ => True) v0_ r1 ∧ Below w.heap.size w w' := by
  unfold runs_Give.f at h
  by_cases c : fitsR l0 = true ∧ -9223372036854775808 ≤ a1 ∧ a1 ≤ 1099511627776
  · rw [if_pos c] at h
    obtain ⟨cf, c1, c2⟩ := c
    by_cases b1 : a2 < 0 ∨ (0 ≤ a2 ∧ a3 < 1) ∨ (0 ≤ a2 ∧ 1 ≤ a3 ∧ a1 < a3) ∨ (0 ≤ a2 ∧ 1 ≤ a3 ∧ a3 ≤ a1 ∧ a1 - a3 < a2)
    · have e : giveOk l0 a1 a2 a3 = false := by
        rw [Bool.eq_false_iff]; intro hh
        simp only [giveOk, Bool.and_eq_true, decide_eq_true_eq] at hh
        omega
      rw [e, if_neg (by decide)] at h
      simp only [Option.some.injEq, Prod.mk.injEq] at h
      obtain ⟨rfl, rfl⟩ := h
      refine (give_bad A0 c0 l0 a1 a2 a3 w ⟨c1, c2⟩ b1).mono ?_
      rintro e w' ⟨rfl, hB⟩
      exact ⟨_, rfl, Kd.R_nil _ _ _ _ _, hB⟩
    · cases hh : l0.any (fun x => hasB x a2 a3) with
      | true =>
        have e : giveOk l0 a1 a2 a3 = false := by unfold giveOk; rw [hh]; simp
        rw [e, if_neg (by decide)] at h
        simp only [Option.some.injEq, Prod.mk.injEq] at h
        obtain ⟨rfl, rfl⟩ := h
        refine (give_had A0 c0 l0 a1 a2 a3 w hr0 cf (by omega) (by omega) c2 (by omega) hh).mono ?_
        rintro e w' ⟨rfl, hB⟩
        exact ⟨_, rfl, Kd.R_nil _ _ _ _ _, hB⟩
      | false =>
        have e : giveOk l0 a1 a2 a3 = true := by
          unfold giveOk; rw [hh]
          simp only [Bool.and_eq_true, decide_eq_true_eq, Bool.not_false, and_true]
          omega
        rw [e, if_pos rfl] at h
        simp only [Option.some.injEq, Prod.mk.injEq] at h
        obtain ⟨rfl, rfl⟩ := h
        exact give_yes A0 c0 l0 a1 a2 a3 w hr0 hc0 cf (by omega) (by omega) c2 (by omega) hh
  · rw [if_neg c] at h; exact absurd h (by simp)
end Go.Proofs.Ytdkedgdieoojgaa.Rn
