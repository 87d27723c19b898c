/- slices.Clone and slices.MaxFunc at runs, and the methods of pages that are taken and given back, walked by hand. -/
import Derived.Test.YtdkedgdieoojgaaRGive
import Derived.Test.YtdkedgdieoojgaaRLink2
set_option linter.unusedVariables false
set_option linter.unusedSimpArgs false
namespace Go.Proofs.Ytdkedgdieoojgaa.Rn
open Go.RowKit Go.Proofs.YtdkedgdieoojgaaW.PrintWords Go.Proofs.YtdkedgdieoojgaaW.PrintLast Go.Proofs.YtdkedgdieoojgaaW.PrintMore
attribute [local go_sem] max2_int min2_int
/-! ### slices.Clone -/
set_option maxHeartbeats 1000000 in
theorem clone_some (A : Addr) (c : Nat) (l : List S51) (w : World) (hC : Kd.C k51 w (some A) l.length l) (hc : l.length ≤ c) (hl : l.length ≤ 1000) :
    Calls Try.prog 27 #[.slice (some A) l.length c] w fun e w' => ∃ v, e = .returned v ∧ Kd.R k51 51 w' w.heap.size (fun _ => True) v l ∧ Below w.heap.size w w' := by
  have hnil : ∀ W : World, (binOp .eql 32 (.slice (some A) l.length c) (.slice none 0 0)).run Try.prog W = .ok (.bool false) W := fun W => Lib.run_eql_slice_nil W 32 51 (some A) l.length c 0 0 Try.underlying32
  obtain ⟨i0, hi0, hz0, hz1, hz2⟩ := info_parts info51
  have HC := Aside0.mk hC
  clear hC
  go_enter Try.func27, Try.ntmps27
  go_wp2_with (at_builtin; refine Kd.R_append_rows (w0 := w) k51 (Rr := k51.K w) w.heap.size rfl _ _ 32 51 _ 16 rfl Try.underlying32 info51 rfl (by decide) (by decide) (.slice (some ⟨w.heap.size, 0, none⟩) 0 0) [] l (some A) l.length c (fun _ => True) (fun _ => False) rfl rfl ?h0 ?h1 ?h2 ?h3 (fun _ _ => trivial) ?h35 ?h4 ?h5 ?_)
  case h0 => exact R_of_blk (xs := []) (rest := []) (cap := 0) (heap_alloc_new w _) (Nat.le_refl _) rfl (by omega)
  case h1 => exact Kd.C_below HC.out (below_alloc (Below.refl _ _) _)
  case h2 => intro x cs hx; obtain rfl := k51_open hx; exact k51_mkM _ _ _ x
  case h3 => exact fun _ h => h.elim
  case h35 => exact below_alloc (Below.refl _ _) _
  case h4 => simp
  case h5 => simp; omega
  intro v1 w3 hR hB3 _ _
  have HR := Aside0.mk hR
  have HB := Aside0.mk hB3
  clear hR hB3 hnil
  go_wp2
  go_ret
  exact ⟨_, rfl, by simpa using HR.out, HB.out⟩
set_option maxHeartbeats 1000000 in
theorem clone_none (w : World) :
    Calls Try.prog 27 #[.slice none 0 0] w fun e w' => e = .returned (.slice none 0 0) ∧ Below w.heap.size w w' := by
  have hnil : ∀ W : World, (binOp .eql 32 (.slice none 0 0) (.slice none 0 0)).run Try.prog W = .ok (.bool true) W := fun W => Lib.run_eql_slice_nil W 32 51 none 0 0 0 0 Try.underlying32
  go_enter Try.func27, Try.ntmps27
  go_wp2_with fail
  go_ret
  exact ⟨rfl, Below.refl _ _⟩
/-- Clone of a row of one's own. -/
theorem clone_calls {v : Value} {l : List S51} {w : World} {base : Nat} {ok : Nat → Prop} (hR : Kd.R k51 51 w base ok v l) (hl : l.length ≤ 1000) :
    Calls Try.prog 27 #[v] w fun e w' => ∃ v, e = .returned v ∧ Kd.R k51 51 w' w.heap.size (fun _ => True) v l ∧ Below w.heap.size w w' := by
  obtain ⟨A, c, rfl, hc, hC⟩ := Kd.R_reads hR
  cases A with
  | some A => exact clone_some A c l w hC hc hl
  | none =>
    have hl0 : l = [] := by
      rcases Nat.eq_zero_or_pos l.length with h | h
      · exact List.eq_nil_of_length_eq_zero h
      · obtain ⟨_, he, _⟩ := hC.2.2 h; cases he
    subst hl0
    have hc0 : c = 0 := by
      obtain ⟨_, inner, ⟨_, hv⟩, _⟩ := hR
      rcases hv with ⟨h, _⟩ | ⟨g, cap, cur, h, _⟩
      · injection h
      · injection h with h; cases h
    subst hc0
    refine (clone_none w).mono ?_
    rintro e w1 ⟨rfl, hb⟩
    exact ⟨_, rfl, Kd.R_nil _ _ _ _ _, hb⟩
/-! ### slices.MaxFunc by the runs' lengths -/
set_option maxHeartbeats 1000000 in
theorem cmp_calls (a b c d : Int) (w : World) (hb : 0 ≤ b ∧ b ≤ 1099511627776) (hd : 0 ≤ d ∧ d ≤ 1099511627776) :
    Calls Try.prog 29 #[.agg #[.int .i64 a, .int .i64 b], .agg #[.int .i64 c, .int .i64 d]] w fun e w' => e = .returned (.int .i64 (b - d)) ∧ Below w.heap.size w w' := by
  go_enter Try.func29, Try.ntmps29
  go_wp2_with fail
  go_ret
  exact ⟨rfl, below_alloc (below_alloc (Below.refl _ _) _) _⟩
set_option maxHeartbeats 2000000 in
theorem max_calls (A : Option Addr) (c : Nat) (l : List S51) (w : World) (hC : Kd.C k51 w A l.length l) (hc : l.length ≤ c) (hl : l.length ≤ 1000) (h1 : 1 ≤ l.length) (hf : ∀ x ∈ l, 0 ≤ x.f1 ∧ x.f1 ≤ 1099511627776) :
    Calls Try.prog 28 #[.slice A l.length c, .func (.func 29) #[] #[]] w fun e w' => ∃ x ∈ l, e = .returned (.agg #[.int .i64 x.f0, .int .i64 x.f1]) ∧ (∀ y ∈ l, y.f1 ≤ x.f1) ∧ Below w.heap.size w w' := by
  have HC := Aside0.mk hC
  have HF := Aside0.mk hf
  have hlt0 : ¬ (l.length : Int) < 1 := by omega
  obtain ⟨ad, hA, e1, e2⟩ := at_T51 hC (0 : Int) (by omega) (by omega)
  have hx0 : rd_T51 l 0 = l[0] := by have := rd_get (l := l) (i := 0) (by omega); simpa using this
  rw [hx0] at e1 e2
  obtain ⟨x0, hxx0⟩ : ∃ x, x = l[0] := ⟨_, rfl⟩
  rw [← hxx0] at e1 e2
  have HX0 := Aside0.mk hxx0
  subst hA
  have e1 : ∀ o, (w.alloc o).cell? ad = some (.int .i64 x0.f0) := fun o => pw_cell_below (below_alloc (Below.refl _ _) o) (by simpa [Addr.add] using e1)
  have e2 : ∀ o, (w.alloc o).cell? ⟨ad.block, ad.off + 1, none⟩ = some (.int .i64 x0.f1) := fun o => pw_cell_below (below_alloc (Below.refl _ _) o) (by simpa [Addr.add] using e2)
  clear hC hf hx0 hxx0
  go_enter Try.func28, Try.ntmps28
  go_wp2
  clear e1 e2
  have HB1 : Below w.heap.size w (((w.alloc (.cells #[.int .i64 0, .int .i64 0] 51)).alloc (.cells #[.int .i64 x0.f0, .int .i64 x0.f1] 51))) := below_alloc (below_alloc (Below.refl _ _) _) _
  have hlen : ∀ k : Nat, k ≤ l.length → k ≤ 1000 := fun k h => by omega
  go_loopw [6] (fun v wr => ∃ (k : Nat) (x : S51), 1 ≤ k ∧ k ≤ l.length ∧ v = .int .i64 k ∧ (0 ≤ x.f1 ∧ x.f1 ≤ 1099511627776) ∧ Aside0 (x ∈ l) ∧ Aside0 (∀ y ∈ l.take k, y.f1 ≤ x.f1) ∧
      Aside0 (wr.heap[w.heap.size + 1]? = some (.cells #[.int .i64 x.f0, .int .i64 x.f1] 51 (0, 0))) ∧ Aside0 (wr.heap[w.heap.size]? = some (.cells #[.int .i64 0, .int .i64 0] 51 (0, 0))) ∧ Aside0 (Below w.heap.size w wr)) (fun v _ => l.length - (intOf v).toNat)
  case atStart =>
    refine ⟨1, x0, Nat.le_refl _, h1, rfl, ?_, ⟨?_⟩, ⟨?_⟩, ⟨?_⟩, ⟨?_⟩, ⟨HB1⟩⟩
    · have := HF.out x0 (by rw [HX0.out]; exact List.getElem_mem _); exact this
    · rw [HX0.out]; exact List.getElem_mem _
    · intro y hy
      have e : l.take 1 = [x0] := by
        rw [HX0.out]; cases l with
        | nil => simp at h1
        | cons a t => rfl
      rw [e] at hy; simp at hy; rw [hy]; exact Int.le_refl _
    · have := heap_alloc_new (w.alloc (.cells #[.int .i64 0, .int .i64 0] 51)) (.cells #[.int .i64 x0.f0, .int .i64 x0.f1] 51); simpa using this
    · have h0 := heap_alloc_new w (.cells #[.int .i64 0, .int .i64 0] 51)
      exact ((below_alloc (Below.refl (w.alloc (.cells #[.int .i64 0, .int .i64 0] 51)).heap.size _) _).block _ (Array.getElem?_eq_some_iff.1 h0).1).trans h0
  case round =>
    obtain ⟨k, x, hk1, hk, rfl, hxb, hxm, hmax, hb1, hb0, hB⟩ := hrel
    clear HB1
    have c1 := blk2_0 hb1.out
    have c2 := blk2_1 hb1.out
    by_cases hlt : k < l.length
    · obtain ⟨ad', hA, e1, e2⟩ := at_T51 (Kd.C_below HC.out hB.out) (k : Int) (by omega) (by omega)
      obtain rfl : ad = ad' := by injection hA
      have hx2 := rd_get hlt
      rw [hx2] at e1 e2
      simp only [Int.toNat_natCast] at e1 e2
      have hm := HF.out _ (List.getElem_mem hlt)
      obtain ⟨y, hyy⟩ : ∃ y, y = l[k] := ⟨_, rfl⟩
      rw [← hyy] at e1 e2 hm
      have HY := Aside0.mk hyy
      clear hx2 hyy hA
      have hin : 0 ≤ (k : Int) ∧ (k : Int) < (l.length : Int) := by omega
      have hin2 : (k : Int) < (l.length : Int) := by omega
      have hmax2 := Aside0.mk (fun z : S51 => fun (hz : z ∈ l.take (k + 1)) => show z ∈ l.take k ∨ z = y by
        rw [List.take_add_one, List.getElem?_eq_getElem hlt] at hz
        rcases List.mem_append.1 hz with hz | hz
        · exact .inl hz
        · right; rw [HY.out]; simpa using hz)
      go_wp2
      go_region_held3 (fun w' => w'.cell? ⟨w.heap.size + 1, 0, none⟩ = some (.int .i64 x.f0) ∧ w'.cell? ⟨w.heap.size + 1, 1, none⟩ = some (.int .i64 x.f1) ∧
            w'.cell? (ad.add (k * 2)) = some (.int .i64 y.f0) ∧ w'.cell? ⟨(ad.add (k * 2)).block, (ad.add (k * 2)).off + 1, none⟩ = some (.int .i64 y.f1))
          (first | go_keep | (go_split_ands; refine ⟨?_, ?_, ?_, ?_⟩ <;> (refine pw_cell_below hb5 ?_; assumption)))
          ((go_at_call 29; refine (cmp_calls _ _ _ _ _ hm hxb).mono ?_; rintro e w5 ⟨rfl, hb5⟩))
      all_goals
        rename_i hHeld
        obtain ⟨c1, c2, e1, e2⟩ := hHeld
        have hbl5 : w5.heap[w.heap.size + 1]? = some (.cells #[.int .i64 x.f0, .int .i64 x.f1] 51 (0, 0)) := (hb5.block _ (Array.getElem?_eq_some_iff.1 hb1.out).1).trans hb1.out
        have hbl0 : w5.heap[w.heap.size]? = some (.cells #[.int .i64 0, .int .i64 0] 51 (0, 0)) := (hb5.block _ (Array.getElem?_eq_some_iff.1 hb0.out).1).trans hb0.out
        have f1 : w5.frozen? ⟨w.heap.size + 1, 0, none⟩ = false := blk_free hbl5 0
        have f2 : w5.frozen? ⟨w.heap.size + 1, 1, none⟩ = false := blk_free hbl5 1
        have HBL5 := Aside0.mk hbl5
        have HBL0 := Aside0.mk hbl0
        have HB5 := Aside0.mk (hB.out.trans (below_of hb5 hB.out))
        clear hbl5 hbl0 hb5
        by_cases ht : 0 < y.f1 - x.f1
      · go_wp2
        go_roundw
        case rel =>
          refine ⟨k + 1, y, by omega, by omega, by go_num, hm, ⟨by rw [HY.out]; exact List.getElem_mem _⟩, ⟨fun z hz => ?_⟩, ⟨?_⟩, ⟨?_⟩, ⟨?_⟩⟩
          · rcases hmax2.out z hz with h | rfl
            · have := hmax.out z h; omega
            · exact Int.le_refl _
          · exact blk2_set HBL5.out _ _
          · exact (Below.heap_setCell _ _ _ _ (by show w.heap.size ≠ w.heap.size + 1; omega)).trans ((Below.heap_setCell _ _ _ _ (by show w.heap.size ≠ w.heap.size + 1; omega)).trans HBL0.out)
          · exact (HB5.out.setCell (p := ⟨w.heap.size + 1, 0, none⟩) (Nat.le_succ _) _).setCell (p := ⟨w.heap.size + 1, 1, none⟩) (Nat.le_succ _) _
        case measure => simp [intOf]; omega
      · go_wp2
        go_roundw
        case rel =>
          refine ⟨k + 1, x, by omega, by omega, by go_num, hxb, hxm, ⟨fun z hz => ?_⟩, HBL5, HBL0, HB5⟩
          rcases hmax2.out z hz with h | rfl
          · exact hmax.out z h
          · omega
        case measure => simp [intOf]; omega
    · have hge : ¬ (k : Int) < (l.length : Int) := by omega
      have g1 : wr.frozen? ⟨w.heap.size, 0, none⟩ = false := blk_free hb0.out 0
      have g2 : wr.frozen? ⟨w.heap.size, 1, none⟩ = false := blk_free hb0.out 1
      have d1 := blk2_0 hb0.out
      have d2 := blk2_1 hb0.out
      go_wp2
      refine bodyPost_ret (results_cell_row rfl _ _ w.heap.size 51 #[.int .i64 x.f0, .int .i64 x.f1] (0, 0) _ rfl (blk2_set hb0.out _ _) Try.underlying51 rfl (by kernel_rfl)) rfl ?_
      have e : k = l.length := by omega
      subst e
      refine ⟨x, hxm.out, rfl, fun y hy => hmax.out y (by rw [List.take_length]; exact hy), ?_⟩
      exact (hB.out.setCell (p := ⟨w.heap.size, 0, none⟩) (Nat.le_refl _) _).setCell (p := ⟨w.heap.size, 1, none⟩) (Nat.le_refl _) _
/-! ### pages that are taken and given back -/
/-- The block g holds so many pages, these free runs, and these ticks. -/
def AL (w : World) (base g : Nat) (P : Int) (l : List S51) (t : Int) : Prop :=
  base ≤ g ∧ ∃ v, w.heap[g]? = some (.cells #[.int .i64 P, v, .int .i64 t] 57 (0, 0)) ∧ Kd.R k51 51 w base (fun k => k ≠ g) v l
theorem AL.lt {w : World} {base g : Nat} {P : Int} {l : List S51} {t : Int} (h : AL w base g P l t) : g < w.heap.size := by
  obtain ⟨_, v, h, _⟩ := h
  exact (Array.getElem?_eq_some_iff.1 h).1
theorem AL.below {w w1 : World} {base g : Nat} {P : Int} {l : List S51} {t : Int} (h : AL w base g P l t) (hb : Below w.heap.size w w1) : AL w1 base g P l t := by
  have hlt := h.lt
  obtain ⟨h0, v, h, hR⟩ := h
  exact ⟨h0, v, (hb.block _ hlt).trans h, Kd.R_below hR hb⟩
def ptr (g : Nat) : Value := .pointer (some ⟨g, 0, none⟩)
theorem blk3_0 {w : World} {g : Nat} {x y z : Value} {t : Nat} (h : w.heap[g]? = some (.cells #[x, y, z] t (0, 0))) : w.cell? ⟨g, 0, none⟩ = some x := by simp [World.cell?, h]
theorem blk3_1 {w : World} {g : Nat} {x y z : Value} {t : Nat} (h : w.heap[g]? = some (.cells #[x, y, z] t (0, 0))) : w.cell? ⟨g, 1, none⟩ = some y := by simp [World.cell?, h]
theorem blk3_2 {w : World} {g : Nat} {x y z : Value} {t : Nat} (h : w.heap[g]? = some (.cells #[x, y, z] t (0, 0))) : w.cell? ⟨g, 2, none⟩ = some z := by simp [World.cell?, h]
set_option maxHeartbeats 1000000 in
theorem new_calls (n : Int) (w : World) :
    Calls Try.prog 9 #[.int .i64 n] w fun e w' => ∃ g, e = .returned (.pointer (some ⟨g, 0, none⟩)) ∧ AL w' w.heap.size g (min (max n 1) 1048576) [⟨0, min (max n 1) 1048576⟩] 0 ∧ Below w.heap.size w w' := by
  have fin : ∀ P : Int, P = min (max n 1) 1048576 → AL ((w.alloc (.cells #[.int .i64 0, .int .i64 P] 51)).alloc (.cells #[.int .i64 P, .slice (some ⟨w.heap.size, 0, none⟩) 1 1, .int .i64 0] 57)) w.heap.size (w.heap.size + 1) (min (max n 1) 1048576) [⟨0, min (max n 1) 1048576⟩] 0 := by
    rintro P rfl
    refine ⟨Nat.le_succ _, .slice (some ⟨w.heap.size, 0, none⟩) 1 1, ?_, ?_⟩
    · have := heap_alloc_new (w.alloc (.cells #[.int .i64 0, .int .i64 (min (max n 1) 1048576)] 51)) (.cells #[.int .i64 (min (max n 1) 1048576), .slice (some ⟨w.heap.size, 0, none⟩) 1 1, .int .i64 0] 57); simpa using this
    · have h0 := heap_alloc_new w (.cells #[.int .i64 0, .int .i64 (min (max n 1) 1048576)] 51)
      have h1 := R_of_blk (w := w.alloc (.cells #[.int .i64 0, .int .i64 (min (max n 1) 1048576)] 51)) (xs := [⟨0, min (max n 1) 1048576⟩]) (rest := []) (cap := 1) h0 (Nat.le_refl _) rfl (by omega)
      have h2 := Kd.R_below (Kd.R_bound h1) (below_alloc (Below.refl _ _) (.cells #[.int .i64 (min (max n 1) 1048576), .slice (some ⟨w.heap.size, 0, none⟩) 1 1, .int .i64 0] 57))
      exact Kd.R_mono h2 (fun k hk => by have := hk.2.2.1; simp at this; omega)
  have hBel : ∀ P : Int, Below w.heap.size w ((w.alloc (.cells #[.int .i64 0, .int .i64 P] 51)).alloc (.cells #[.int .i64 P, .slice (some ⟨w.heap.size, 0, none⟩) 1 1, .int .i64 0] 57)) := fun P => below_alloc (below_alloc (Below.refl _ _) _) _
  go_enter Try.func9, Try.ntmps9
  go_wp2_with fail
  all_goals
    rename_i h1_
    go_ret
    refine ⟨_, rfl, fin _ ?_, hBel _⟩
    split at h1_ <;> omega
set_option maxHeartbeats 1000000 in
/-- Runs: a copy of the free runs. -/
theorem runs_calls {w : World} {base g : Nat} {P : Int} {l : List S51} {t : Int} (h : AL w base g P l t) (hl : l.length ≤ 1000) :
    Calls Try.prog 12 #[.pointer (some ⟨g, 0, none⟩)] w fun e w' => ∃ v, e = .returned v ∧ Kd.R k51 51 w' w.heap.size (fun _ => True) v l ∧ Below w.heap.size w w' := by
  obtain ⟨hb, v, hg, hR⟩ := h
  have c1 := blk3_1 hg
  have HR := Aside0.mk hR
  clear hR hg
  go_enter Try.func12, Try.ntmps12
  go_wp2_with fail
  refine (clone_calls HR.out hl).mono ?_
  rintro e w1 ⟨u, rfl, hR1, hB1⟩
  have HR1 := Aside0.mk hR1
  have HB1 := Aside0.mk hB1
  clear hR1 hB1
  go_wp2
  go_ret
  exact ⟨_, rfl, HR1.out, HB1.out⟩
set_option maxHeartbeats 1000000 in
theorem ticks_calls {w : World} {base g : Nat} {P : Int} {l : List S51} {t : Int} (h : AL w base g P l t) :
    Calls Try.prog 14 #[.pointer (some ⟨g, 0, none⟩)] w fun e w' => e = .returned (.int .i64 t) ∧ w' = w := by
  obtain ⟨hb, v, hg, hR⟩ := h
  have c1 := blk3_2 hg
  clear hR hg
  go_enter Try.func14, Try.ntmps14
  go_wp2_with fail
  go_ret
  exact ⟨rfl, rfl⟩
set_option maxHeartbeats 1000000 in
theorem pages_calls {w : World} {base g : Nat} {P : Int} {l : List S51} {t : Int} (h : AL w base g P l t) :
    Calls Try.prog 22 #[.pointer (some ⟨g, 0, none⟩)] w fun e w' => e = .returned (.int .i64 P) ∧ w' = w := by
  obtain ⟨hb, v, hg, hR⟩ := h
  have c1 := blk3_0 hg
  clear hR hg
  go_enter Try.func22, Try.ntmps22
  go_wp2_with fail
  go_ret
  exact ⟨rfl, rfl⟩
set_option maxHeartbeats 1000000 in
theorem free_calls {w : World} {base g : Nat} {P : Int} {l : List S51} {t : Int} (h : AL w base g P l t) (hf : fitsR l = true) :
    Calls Try.prog 19 #[.pointer (some ⟨g, 0, none⟩)] w fun e w' => e = .returned (.int .i64 (totalF l)) ∧ Below w.heap.size w w' := by
  have hl := fitsR_len hf
  have HA := Aside0.mk h
  have ht := Aside0.mk (total_is l hf (l.length + 1) (Nat.lt_succ_self _))
  have HF := Aside0.mk hf
  clear h hf
  go_enter Try.func19, Try.ntmps19
  go_wp2_with fail
  refine (runs_calls HA.out hl).mono ?_
  rintro e w1 ⟨u, rfl, hR1, hB1⟩
  obtain ⟨A, c, rfl, hc, hC⟩ := Kd.R_reads hR1
  have HC := Aside0.mk hC
  have HCC := Aside0.mk hc
  have HB1 := Aside0.mk hB1
  clear hR1 hB1 hC hc
  go_wp2_with fail
  refine (runs_Total.calls _ _ _ _ _ _ HC.out HCC.out ht.out).mono ?_
  rintro e w2 ⟨rfl, hd⟩
  have HB2 := Aside0.mk (below_step HB1.out hd)
  clear hd
  go_wp2
  go_ret
  exact ⟨rfl, HB2.out⟩
/-- The pages of the longest run; none: 0. -/
def IsLargest (l : List S51) (m : Int) : Prop := (l = [] ∧ m = 0) ∨ ((∃ x ∈ l, m = x.f1) ∧ ∀ y ∈ l, y.f1 ≤ m)
set_option maxHeartbeats 1000000 in
theorem largest_calls {w : World} {base g : Nat} {P : Int} {l : List S51} {t : Int} (h : AL w base g P l t) (hf : fitsR l = true) :
    Calls Try.prog 13 #[.pointer (some ⟨g, 0, none⟩)] w fun e w' => ∃ m, e = .returned (.int .i64 m) ∧ IsLargest l m ∧ Below w.heap.size w w' := by
  have hl := fitsR_len hf
  have HA := Aside0.mk h
  have HF := Aside0.mk hf
  clear h hf
  by_cases h0 : l.length = 0
  · have hz := List.eq_nil_of_length_eq_zero h0
    subst hz
    go_enter Try.func13, Try.ntmps13
    go_wp2_with fail
    refine (runs_calls HA.out hl).mono ?_
    rintro e w1 ⟨u, rfl, hR1, hB1⟩
    obtain ⟨A, c, rfl, hc, hC⟩ := Kd.R_reads hR1
    have HB1 := Aside0.mk hB1
    clear hR1 hB1 hC hc
    go_wp2_with fail
    go_ret
    exact ⟨_, rfl, .inl ⟨rfl, rfl⟩, HB1.out⟩
  · have hne : ¬ (l.length : Int) = 0 := by omega
    have hne2 : ((l.length : Int) == 0) = false := by simpa using hne
    go_enter Try.func13, Try.ntmps13
    go_wp2_with fail
    refine (runs_calls HA.out hl).mono ?_
    rintro e w1 ⟨u, rfl, hR1, hB1⟩
    obtain ⟨A, c, rfl, hc, hC⟩ := Kd.R_reads hR1
    have HC := Aside0.mk hC
    have HCC := Aside0.mk hc
    have HB1 := Aside0.mk hB1
    clear hR1 hB1 hC hc
    go_wp2_with fail
    refine (max_calls _ _ _ _ HC.out HCC.out hl (by omega) (fun x hx => by have := fitsR_mem HF.out hx; omega)).mono ?_
    rintro e w2 ⟨x, hx, rfl, hmax, hb⟩
    have HX := Aside0.mk hx
    have HM := Aside0.mk hmax
    have HB2 := Aside0.mk (below_step HB1.out hb)
    clear hb hx hmax
    have hfd : ∀ w : World, (Instr.field 51 (.agg #[.int .i64 x.f0, .int .i64 x.f1]) 1).run Try.prog w = .ok (.int .i64 x.f1) w := fun _ => by kernel_rfl
    go_wp2
    go_ret
    exact ⟨_, rfl, .inr ⟨⟨x, HX.out, rfl⟩, HM.out⟩, HB2.out⟩
/-- What a call on a block of pages leaves: the block changed, all else of old kept. -/
structure Kept (base g : Nat) (w w' : World) : Prop where
  b : Below base w w'
  k : KeepBut w w' g none
theorem Kept.refl (base g : Nat) (w : World) : Kept base g w w := ⟨Below.refl _ _, KeepBut.refl _ _ _⟩
theorem Kept.of_below {base g : Nat} {w w1 : World} (h : Below w.heap.size w w1) (hb : base ≤ w.heap.size) : Kept base g w w1 := ⟨h.mono hb, KeepBut.of_below h g none⟩
theorem Kept.trans {base g : Nat} {w w1 w2 : World} (h : Kept base g w w1) (k : Kept base g w1 w2) : Kept base g w w2 := by
  refine ⟨h.b.trans k.b, Nat.le_trans h.k.1 k.k.1, fun i hi hg hr => ?_⟩
  exact (k.k.2 i (Nat.lt_of_lt_of_le hi h.k.1) hg hr).trans (h.k.2 i hi hg hr)
theorem Kept.set {base g : Nat} {w w1 : World} (h : Kept base g w w1) (hb : base ≤ g) (j : Nat) (u : Value) : Kept base g w (w1.setCell ⟨g, j, none⟩ u) := ⟨h.b.setCell (p := ⟨g, j, none⟩) hb u, h.k.set_ j u⟩
theorem Kept.drew {base g : Nat} {w w1 : World} (h : Kept base g w w1) : Kept base g w w1.drew := ⟨below_drew h.b, h.k⟩
set_option maxHeartbeats 1000000 in
theorem done_calls {w : World} {base g : Nat} {P : Int} {l : List S51} {t : Int} {v : Value} {m : List S51} (h : AL w base g P l t) (hv : Kd.R k51 51 w base (fun k => k ≠ g) v m) (ht : 0 ≤ t ∧ t ≤ 1000000000) (hl : l.length ≤ 1000) :
    Calls Try.prog 25 #[.pointer (some ⟨g, 0, none⟩), v] w fun e w' => e = .returned (.int .i64 0) ∧ AL w' base g P m (t + 1 + l.length) ∧ Kept base g w w' := by
  obtain ⟨hb, u, hg, hR⟩ := h
  obtain ⟨A, c, rfl, hc, hC⟩ := Kd.R_reads hR
  obtain ⟨A2, k2, rfl, hc2, hC2⟩ := Kd.R_reads hv
  have c1 := blk3_1 hg
  have c2 := blk3_2 hg
  have f1 : w.frozen? ⟨g, 1, none⟩ = false := blk_free hg 1
  have f2 : w.frozen? ⟨g, 2, none⟩ = false := blk_free hg 2
  have HV := Aside0.mk hv
  have HG := Aside0.mk hg
  clear hv hg hR hC hc hC2 hc2
  have w1_ : IntKind.i64.wrap (1 + (l.length : Int)) = 1 + (l.length : Int) := by rw [IntKind.wrap_i64]; omega
  have w2_ : IntKind.i64.wrap (t + (1 + (l.length : Int))) = t + 1 + (l.length : Int) := by rw [IntKind.wrap_i64]; omega
  go_enter Try.func25, Try.ntmps25
  go_wp2
  go_still_tail 13, (by kernel_rfl)
  go_wp2
  go_ret
  refine ⟨rfl, ⟨hb, .slice A2 m.length k2, ?_, ?_⟩, ?_⟩
  · exact blk_put (cs := #[.int .i64 P, .slice A l.length c, .int .i64 (t + 1 + l.length)]) (blk_put HG.out 2 (.int .i64 (t + 1 + l.length)) rfl) 1 _ rfl
  · exact Kd.R_far (p := ⟨g, 1, none⟩) (Kd.R_drew (Kd.R_far (p := ⟨g, 2, none⟩) HV.out (fun _ h => h) _)) (fun _ h => h) _
  · exact (((Kept.refl base g w).set hb 2 _).set hb 1 _).drew
set_option maxHeartbeats 1000000 in
/-- Take where there is room. -/
theorem take_calls {w : World} {base g : Nat} {P : Int} {l : List S51} {t : Int} (h : AL w base g P l t) (hf : fitsR l = true) (ht : 0 ≤ t ∧ t ≤ 1000000000) (n : Int) (hn : 1 ≤ n) (hb : ¬ bestF l n < 0) :
    Calls Try.prog 11 #[.pointer (some ⟨g, 0, none⟩), .int .i64 n] w fun e w' => e = .returned (.tuple #[.int .i64 (l.getD (bestF l n).toNat z51).f0, .int .i64 0]) ∧ AL w' base g P (takeAt l (bestF l n).toNat n) (t + 1 + l.length) ∧ Kept base g w w' := by
  have hl := fitsR_len hf
  have hlt := h.lt
  have hfun := Aside0.mk (show runs_Take.f l n = some ((l.getD (bestF l n).toNat z51).f0, takeAt l (bestF l n).toNat n, true) by rw [take_is hf, if_neg hb])
  have HA := Aside0.mk h
  obtain ⟨hbg, u, hg, hR⟩ := h
  obtain ⟨A, c, rfl, hc, hC⟩ := Kd.R_reads hR
  have c1 := blk3_1 hg
  have HC := Aside0.mk hC
  have HCC := Aside0.mk hc
  have hn1 : ¬ n < 1 := by omega
  obtain ⟨p, hp⟩ : ∃ p, p = (l.getD (bestF l n).toNat z51).f0 := ⟨_, rfl⟩
  obtain ⟨m, hm⟩ : ∃ m, m = takeAt l (bestF l n).toNat n := ⟨_, rfl⟩
  rw [← hp, ← hm] at hfun ⊢
  clear hg hR hC hc hp hm
  go_enter Try.func11, Try.ntmps11
  go_wp2_with fail
  refine (runs_Take.calls _ _ _ _ _ _ _ _ HC.out HCC.out hfun.out).mono ?_
  rintro e w1 ⟨v1, rfl, hR1, hB1⟩
  have HA1 := Aside0.mk (HA.out.below hB1)
  have HV1 := Aside0.mk (Kd.R_lower (Kd.R_mono (Kd.R_bound hR1) (fun k hk => show k ≠ g by have := hk.2.1; omega)) (show base ≤ w.heap.size by omega))
  have HK1 := Aside0.mk (Kept.of_below (g := g) hB1 (show base ≤ w.heap.size by omega))
  clear hR1 hB1
  go_wp2_with fail
  refine (done_calls HA1.out HV1.out ht hl).mono ?_
  rintro e w2 ⟨rfl, hA2, hK2⟩
  have HA2 := Aside0.mk hA2
  have HK2 := Aside0.mk (HK1.out.trans hK2)
  clear hA2 hK2
  go_wp2
  go_ret2
  exact ⟨rfl, HA2.out, HK2.out⟩
set_option maxHeartbeats 1000000 in
/-- Take where there is none, or of fewer than one. -/
theorem take_no {w : World} {base g : Nat} {P : Int} {l : List S51} {t : Int} (h : AL w base g P l t) (hf : fitsR l = true) (n : Int) (hn : 1 ≤ n) (hb : bestF l n < 0) :
    Calls Try.prog 11 #[.pointer (some ⟨g, 0, none⟩), .int .i64 n] w fun e w' => e = .returned (.tuple #[.int .i64 0, .int .i64 4]) ∧ AL w' base g P l t ∧ Kept base g w w' := by
  have hlt := h.lt
  have hfun := Aside0.mk (show runs_Take.f l n = some (0, [], false) by rw [take_is hf, if_pos hb])
  have HA := Aside0.mk h
  obtain ⟨hbg, u, hg, hR⟩ := h
  obtain ⟨A, c, rfl, hc, hC⟩ := Kd.R_reads hR
  have c1 := blk3_1 hg
  have HC := Aside0.mk hC
  have HCC := Aside0.mk hc
  have hn1 : ¬ n < 1 := by omega
  clear hg hR hC hc
  go_enter Try.func11, Try.ntmps11
  go_wp2_with fail
  refine (runs_Take.calls _ _ _ _ _ _ _ _ HC.out HCC.out hfun.out).mono ?_
  rintro e w1 ⟨v1, rfl, hR1, hB1⟩
  have HA1 := Aside0.mk (HA.out.below hB1)
  have HK1 := Aside0.mk (Kept.of_below (g := g) hB1 (show base ≤ w.heap.size by omega))
  clear hR1 hB1
  go_wp2_with fail
  go_ret2
  exact ⟨rfl, HA1.out, HK1.out⟩
set_option maxHeartbeats 1000000 in
theorem take_bad {w : World} {base g : Nat} {P : Int} {l : List S51} {t : Int} (h : AL w base g P l t) (n : Int) (hn : n < 1) :
    Calls Try.prog 11 #[.pointer (some ⟨g, 0, none⟩), .int .i64 n] w fun e w' => e = .returned (.tuple #[.int .i64 0, .int .i64 1]) ∧ AL w' base g P l t ∧ Kept base g w w' := by
  have HA := Aside0.mk h
  clear h
  go_enter Try.func11, Try.ntmps11
  go_wp2_with fail
  go_ret2
  exact ⟨rfl, HA.out, Kept.refl _ _ _⟩
set_option maxHeartbeats 1000000 in
/-- Give of pages that may be given back. -/
theorem give_calls {w : World} {base g : Nat} {P : Int} {l : List S51} {t : Int} (h : AL w base g P l t) (hf : fitsR l = true) (hP : 1 ≤ P ∧ P ≤ 1048576) (ht : 0 ≤ t ∧ t ≤ 1000000000) (p n : Int) (hg0 : giveOk l P p n = true) :
    Calls Try.prog 10 #[.pointer (some ⟨g, 0, none⟩), .int .i64 p, .int .i64 n] w fun e w' => e = .returned (.int .i64 0) ∧ AL w' base g P (giveF l p n) (t + 1 + l.length) ∧ Kept base g w w' := by
  have hl := fitsR_len hf
  have hlt := h.lt
  have hfun := Aside0.mk (show runs_Give.f l P p n = some (giveF l p n, true) by rw [give_is hf (by omega), if_pos hg0])
  have HA := Aside0.mk h
  obtain ⟨hbg, u, hg, hR⟩ := h
  obtain ⟨A, c, rfl, hc, hC⟩ := Kd.R_reads hR
  have c0 := blk3_0 hg
  have c1 := blk3_1 hg
  have HC := Aside0.mk hC
  have HCC := Aside0.mk hc
  obtain ⟨m, hm⟩ : ∃ m, m = giveF l p n := ⟨_, rfl⟩
  rw [← hm] at hfun ⊢
  clear hg hR hC hc hm
  go_enter Try.func10, Try.ntmps10
  go_wp2
  go_region_held3 (fun w' => w'.cell? ⟨g, 0, none⟩ = some (.int .i64 P) ∧ w'.cell? ⟨g, 1, none⟩ = some (.slice A l.length c))
    (first | go_keep | (go_split_ands; refine ⟨?_, ?_⟩ <;> (refine pw_cell_below hB0 ?_; assumption)))
    ((go_at_call 24; refine (runs_Give.calls _ _ _ _ _ _ _ _ _ (Kd.C_drew HC.out) HCC.out hfun.out).mono ?_; rintro e w1 ⟨v1, rfl, hR0, hB0⟩))
  all_goals
   have hB1 : Below w.heap.size w w1 := (below_drew (Below.refl _ _)).trans hB0
   have hR1 : Kd.R k51 51 w1 w.heap.size (fun _ => True) v1 m := hR0
   clear hR0 hB0
  have HA1 := Aside0.mk (HA.out.below hB1)
  have HV1 := Aside0.mk (Kd.R_lower (Kd.R_mono (Kd.R_bound hR1) (fun k hk => show k ≠ g by have := hk.2.1; omega)) (show base ≤ w.heap.size by omega))
  have HK1 := Aside0.mk (Kept.of_below (g := g) hB1 (show base ≤ w.heap.size by omega))
  clear hR1 hB1
  go_wp2_with fail
  refine (done_calls HA1.out HV1.out ht hl).mono ?_
  rintro e w2 ⟨rfl, hA2, hK2⟩
  have HA2 := Aside0.mk hA2
  have HK2 := Aside0.mk (HK1.out.trans hK2)
  clear hA2 hK2
  go_wp2
  go_ret
  exact ⟨rfl, HA2.out, HK2.out⟩
set_option maxHeartbeats 1000000 in
theorem give_no {w : World} {base g : Nat} {P : Int} {l : List S51} {t : Int} (h : AL w base g P l t) (hf : fitsR l = true) (hP : 1 ≤ P ∧ P ≤ 1048576) (p n : Int) (hg0 : giveOk l P p n = false) :
    Calls Try.prog 10 #[.pointer (some ⟨g, 0, none⟩), .int .i64 p, .int .i64 n] w fun e w' => e = .returned (.int .i64 1) ∧ AL w' base g P l t ∧ Kept base g w w' := by
  have hlt := h.lt
  have hfun := Aside0.mk (show runs_Give.f l P p n = some ([], false) by rw [give_is hf (by omega), if_neg (by rw [hg0]; decide)])
  have HA := Aside0.mk h
  obtain ⟨hbg, u, hg, hR⟩ := h
  obtain ⟨A, c, rfl, hc, hC⟩ := Kd.R_reads hR
  have c0 := blk3_0 hg
  have c1 := blk3_1 hg
  have HC := Aside0.mk hC
  have HCC := Aside0.mk hc
  clear hg hR hC hc
  go_enter Try.func10, Try.ntmps10
  go_wp2
  go_region_held3 (fun w' => w'.cell? ⟨g, 0, none⟩ = some (.int .i64 P) ∧ w'.cell? ⟨g, 1, none⟩ = some (.slice A l.length c))
    (first | go_keep | (go_split_ands; refine ⟨?_, ?_⟩ <;> (refine pw_cell_below hB0 ?_; assumption)))
    ((go_at_call 24; refine (runs_Give.calls _ _ _ _ _ _ _ _ _ (Kd.C_drew HC.out) HCC.out hfun.out).mono ?_; rintro e w1 ⟨v1, rfl, hR0, hB0⟩))
  all_goals
   have hB1 : Below w.heap.size w w1 := (below_drew (Below.refl _ _)).trans hB0
   have hR1 : Kd.R k51 51 w1 w.heap.size (fun _ => True) v1 [] := hR0
   clear hR0 hB0
  have HA1 := Aside0.mk (HA.out.below hB1)
  have HK1 := Aside0.mk (Kept.of_below (g := g) hB1 (show base ≤ w.heap.size by omega))
  clear hR1 hB1
  go_wp2_with fail
  go_ret
  exact ⟨rfl, HA1.out, HK1.out⟩
end Go.Proofs.Ytdkedgdieoojgaa.Rn
