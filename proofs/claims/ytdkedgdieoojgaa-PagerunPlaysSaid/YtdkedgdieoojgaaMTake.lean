/- runs.Take: what it takes and leaves, at runs that are few and small: walked, with runs.Best and slices.Delete by their contracts. -/
import Derived.Test.YtdkedgdieoojgaaRnx1
import Derived.Test.YtdkedgdieoojgaaRnx3
import Derived.Test.YtdkedgdieoojgaaMBest
import Derived.Test.YtdkedgdieoojgaaMDel
import Derived.Deep.RegionHeld3
import Derived.Laws.CopyOwn
set_option linter.unusedVariables false
set_option linter.unusedSimpArgs false
namespace Go.Proofs.Ytdkedgdieoojgaa.Rn
open Go.RowKit Go.Proofs.YtdkedgdieoojgaaW.PrintWords Go.Proofs.YtdkedgdieoojgaaW.PrintLast Go.Proofs.YtdkedgdieoojgaaW.PrintMore
attribute [local go_sem high] eqA51
theorem make36 (n : Nat) (hn : n ≤ 1000) : ∃ Z : Array Value, Z.size = n * 2 ∧ ∀ W : World, (Instr.makeSlice 32 (.int .i64 (n : Int)) (.int .i64 (n : Int))).run Try.prog W = .ok (.slice (some ⟨W.heap.size, 0, none⟩) n n) (W.alloc (.cells Z 51)) := by
  obtain ⟨i0, hi0, hz0, hz1, hz2⟩ := info_parts info51
  refine ⟨madeCells (Value.agg #[.int .i64 0, .int .i64 0]).cells (n * i0.size), by rw [size_madeCells, hz1], fun W => ?_⟩
  have := run_make (P := Try.prog) W 32 51 i0 _ Try.underlying32 hi0 hz0 .i64 .i64 n n (by omega) (Int.le_refl _) (by rw [hz2]; omega) (by omega)
  simpa only [Int.toNat_natCast] using this
theorem copy36 {W : World} {g n c : Nat} {ad : Addr} {cur : Array Value} {cs : List Value} (ty : TypeId) (hb : W.heap[g]? = some (.cells cur 51 (0, 0))) (hc : cur.size = n * 2) (hl : cs.length = n * 2)
    (hsrc : ∀ j v, cs[j]? = some v → W.cell? (ad.add j) = some v) (h1 : ∀ v ∈ cs, v.oneCell' = true) :
    (Builtin.copy_ #[32, 32] ty #[.slice (some ⟨g, 0, none⟩) n n, .slice (some ad) n c]).run Try.prog W = .ok (goInt n) (W.setRow g cs.toArray) := by
  obtain ⟨i0, hi0, hz0, hz1, hz2⟩ := info_parts info51
  have hL := run_loadCells_list (P := Try.prog) W ad cs hsrc
  have hst := run_storeCells_at Try.prog g 0 51 cs 0 cur W hb (by omega) h1
  have e1 : cur.toList.drop (0 + 0 + cs.length) = [] := List.drop_eq_nil_of_le (by simp; omega)
  rw [e1] at hst
  simp only [Nat.add_zero, List.take_zero, List.nil_append, List.append_nil] at hst
  rw [hl] at hL
  simp [Builtin.copy_, run_underlying Try.underlying32, Builtin.lenOf, Builtin.firstCells, sizeOf, typeInfo, hi0, hz1, hL, hst, Nat.min_self]
theorem flat_reads {w : World} {A : Option Addr} {xs : List S51} {ad : Addr} (h : Kd.C k51 w A xs.length xs) (hA : A = some ad) :
    ∀ j v, (flat xs)[j]? = some v → w.cell? (ad.add j) = some v := by
  intro j v hv
  have hj : j < (flat xs).length := (List.getElem?_eq_some_iff.1 hv).1
  rw [flat_length] at hj
  obtain ⟨ad', e, hc⟩ := h.2.2 (by omega)
  obtain rfl : ad = ad' := by rw [hA] at e; exact Option.some.inj e
  have hx := List.getElem?_eq_getElem (show j / 2 < xs.length by omega)
  obtain ⟨c, hlen, hK, hcell⟩ := hc (j / 2) _ hx
  obtain rfl := k51_open hK
  have hd : (flat xs)[j]? = [Value.int .i64 xs[j / 2].f0, .int .i64 xs[j / 2].f1][j % 2]? := by
    have e2 : (flat xs).drop (j / 2 * 2) = .int .i64 xs[j / 2].f0 :: .int .i64 xs[j / 2].f1 :: flat (xs.drop (j / 2 + 1)) := by
      rw [flat_drop, List.drop_eq_getElem_cons (by omega)]; rfl
    have e3 : (flat xs)[j]? = ((flat xs).drop (j / 2 * 2))[j % 2]? := by rw [List.getElem?_drop]; congr 1; omega
    rw [e3, e2]
    rcases Nat.mod_two_eq_zero_or_one j with h0 | h0 <;> simp [h0]
  rw [hd] at hv
  have := hcell (j % 2) v hv
  rwa [show j / 2 * k51.sz + j % 2 = j from by show j / 2 * 2 + j % 2 = j; omega] at this
theorem flat_at0 {xs : List S51} {i : Nat} {x : S51} (h : xs[i]? = some x) : (flat xs)[i * 2]? = some (.int .i64 x.f0) := by
  obtain ⟨hi, rfl⟩ := List.getElem?_eq_some_iff.1 h
  have e : (flat xs)[i * 2]? = ((flat xs).drop (i * 2))[0]? := by rw [List.getElem?_drop]; rfl
  rw [e, flat_drop, List.drop_eq_getElem_cons hi]; rfl
theorem flat_at1 {xs : List S51} {i : Nat} {x : S51} (h : xs[i]? = some x) : (flat xs)[i * 2 + 1]? = some (.int .i64 x.f1) := by
  obtain ⟨hi, rfl⟩ := List.getElem?_eq_some_iff.1 h
  have e : (flat xs)[i * 2 + 1]? = ((flat xs).drop (i * 2))[1]? := by rw [List.getElem?_drop]
  rw [e, flat_drop, List.drop_eq_getElem_cons hi]; rfl
theorem flat_set (xs : List S51) (i : Nat) (x : S51) (h : i < xs.length) : ((flat xs).set (i * 2) (.int .i64 x.f0)).set (i * 2 + 1) (.int .i64 x.f1) = flat (xs.set i x) := by
  induction xs generalizing i with
  | nil => simp at h
  | cons y t ih =>
    cases i with
    | zero => rfl
    | succ i =>
      have := ih i (by simpa using h)
      simp only [flat, List.flatMap_cons, List.set_cons_succ, Nat.succ_mul] at this ⊢
      rw [← this]; rfl
theorem blk_set2 {w : World} {g : Nat} {xs : List S51} (h : w.heap[g]? = some (.cells (flat xs).toArray 51 (0, 0))) {i : Nat} (hi : i < xs.length) (x : S51) :
    ((w.setCell ⟨g, i * 2, none⟩ (.int .i64 x.f0)).setCell ⟨g, i * 2 + 1, none⟩ (.int .i64 x.f1)).heap[g]? = some (.cells (flat (xs.set i x)).toArray 51 (0, 0)) := by
  have h1 : (w.setCell ⟨g, i * 2, none⟩ (.int .i64 x.f0)).heap[g]? = some (.cells ((flat xs).set (i * 2) (.int .i64 x.f0)).toArray 51 (0, 0)) := by
    rw [setCell_eq_setRow w g _ _ 51 (0, 0) _ h, setRow_heap w g _ _ 51 _ h]; simp
  rw [setCell_eq_setRow _ g _ _ 51 (0, 0) _ h1, setRow_heap _ g _ _ 51 _ h1, ← flat_set xs i x hi]; simp
theorem flat_reps (R : S51 → List Value → Prop) (hR : ∀ x, R x [.int .i64 x.f0, .int .i64 x.f1]) (xs : List S51) : Reps R 2 xs (flat xs) := by
  refine ⟨flat_length xs, fun j p hj => ?_⟩
  have hjl := (List.getElem?_eq_some_iff.1 hj).1
  have e : (flat xs).drop (j * 2) = .int .i64 p.f0 :: .int .i64 p.f1 :: flat (xs.drop (j + 1)) := by
    rw [flat_drop, List.drop_eq_getElem_cons hjl]
    have := (List.getElem?_eq_some_iff.1 hj).2
    rw [this]; rfl
  rw [e]; exact hR p
theorem R_of_blk {w : World} {g base cap : Nat} {xs : List S51} {rest : List Value} (h : w.heap[g]? = some (.cells (flat xs ++ rest).toArray 51 (0, 0))) (hb : base ≤ g) (hl : (flat xs ++ rest).length = cap * 2) (hc : cap ≤ 1000) :
    Kd.R k51 51 w base (fun _ => True) (.slice (some ⟨g, 0, none⟩) xs.length cap) xs := by
  have hfl := flat_length xs
  rw [List.length_append] at hl
  refine ⟨fun _ _ => trivial, flat xs, ⟨hfl, .inr ⟨g, cap, _, rfl, hb, h, by omega, by simp only [maxLen]; omega, ?_, ?_⟩⟩, flat_reps _ (fun x => k51_mkM _ _ _ x) xs⟩
  · show (flat xs ++ rest).toArray.size = cap * 2
    rw [List.size_toArray, List.length_append, hl]
  · show (flat xs ++ rest).toArray.toList.take (xs.length * 2) = flat xs
    rw [List.toList_toArray, ← hfl, List.take_left]
theorem end_calls (a b : Int) (w : World) (ha : 0 ≤ a ∧ a ≤ 2199023255552) (hb : 0 ≤ b ∧ b ≤ 2199023255552) :
    Calls Try.prog 33 #[.agg #[.int .i64 a, .int .i64 b]] w fun e w' => e = .returned (.int .i64 (a + b)) ∧ Below w.heap.size w w' := by
  have e : runs_end.f a b = some (a + b) := by unfold runs_end.f wrap64; congr 1; omega
  exact runs_end.calls a b (a + b) w e
theorem below_of {w W W' : World} (h : Below W.drew.heap.size W.drew W') (hB : Below w.heap.size w W) : Below w.heap.size W W' :=
  ⟨h.os, h.tape, h.output, h.size, fun k hk => h.block k (Nat.lt_of_lt_of_le hk hB.size)⟩
set_option maxHeartbeats 1000000 in
theorem take_some (A0 : Option Addr) (c0 : Nat) (l0 : List S51) (a1 : Int) (i : Nat) (w : World) (hr0 : Kd.C k51 w A0 l0.length l0) (hc0 : l0.length ≤ c0)
    (hl : l0.length ≤ 1000) (hi : i < l0.length) (hbest : bestF l0 a1 = (i : Int)) (x : S51) (hx : l0[i]? = some x) (hx0 : 0 ≤ x.f0 ∧ x.f0 ≤ 1099511627776) (ha : 0 < a1 ∧ a1 < x.f1) (hx1 : x.f1 ≤ 1099511627776) :
    Calls Try.prog 26 #[.slice A0 l0.length c0, .int .i64 a1] w fun e w' => ∃ v1_ : Value, e = .returned (.tuple #[.int .i64 x.f0, v1_, .bool true]) ∧
      Kd.R k51 51 w' w.heap.size (fun _ => True) v1_ (l0.set i ⟨x.f0 + a1, x.f1 - a1⟩) ∧ Below w.heap.size w w' := by
  obtain ⟨ad, hA, hc⟩ := hr0.2.2 (by omega)
  subst hA
  have hR := Aside0.mk hr0
  have hC0 := Aside0.mk hc0
  have hfl := Aside0.mk (flat_reads hr0 rfl)
  have hbst := Aside0.mk (best_is l0 a1 hl)
  have hBf := Aside0.mk hbest
  have hX := Aside0.mk hx
  obtain ⟨Z, hZ, hmk⟩ := make36 l0.length hl
  clear hr0 hc0 hc hbest hx
  go_enter Try.func26, Try.ntmps26
  go_wp2_with fail
  refine (runs_Best.calls _ _ _ _ _ _ _ hR.out hC0.out hbst.out).mono ?_
  rintro e w1 ⟨rfl, hB1⟩
  rw [hBf.out]
  have HB1 := Aside0.mk hB1
  obtain ⟨g, hg⟩ : ∃ g, g = w1.heap.size := ⟨_, rfl⟩
  have hb2 : (w1.alloc (.cells Z 51)).heap[g]? = some (.cells Z 51 (0, 0)) := by rw [hg]; exact heap_alloc_new w1 _
  have hfl1 : ∀ j v, (flat l0)[j]? = some v → (w1.alloc (.cells Z 51)).cell? (ad.add j) = some v := fun j v hv => pw_cell_below (below_alloc hB1 _) (hfl.out j v hv)
  have hcp := fun ty => copy36 (c := c0) ty hb2 hZ (flat_length l0) hfl1 (flat_one l0)
  obtain ⟨W3, hW3⟩ : ∃ W3, W3 = (w1.alloc (.cells Z 51)).setRow g (flat l0).toArray := ⟨_, rfl⟩
  rw [← hW3, hg] at hcp
  have hge : w.heap.size ≤ g := by rw [hg]; exact hB1.size
  have hblk3 : Aside0 (W3.heap[g]? = some (.cells (flat l0).toArray 51 (0, 0))) := ⟨by rw [hW3, setRow_heap _ g _ _ 51 _ hb2]⟩
  have hB3 : Below w.heap.size w W3 := by rw [hW3]; exact below_setRow (below_alloc hB1 _) hge _
  have c1 : W3.cell? (ad.add (i * 2)) = some (.int .i64 x.f0) := pw_cell_below hB3 (hfl.out _ _ (flat_at0 hX.out))
  have c2 : W3.cell? ⟨(ad.add (i * 2)).block, (ad.add (i * 2)).off + 1, none⟩ = some (.int .i64 x.f1) := by rw [← add_field _ _ 1 (by omega)]; exact pw_cell_below hB3 (hfl.out _ _ (flat_at1 hX.out))
  have s1 : W3.cell? ⟨w1.heap.size, i * 2, none⟩ = some (.int .i64 x.f0) := by rw [← hg, blk_cell_at hblk3.out]; exact flat_at0 hX.out
  have s2 : W3.cell? ⟨w1.heap.size, i * 2 + 1, none⟩ = some (.int .i64 x.f1) := by rw [← hg, blk_cell_at hblk3.out]; exact flat_at1 hX.out
  have fr1 : W3.frozen? ⟨w1.heap.size, i * 2, none⟩ = false := by rw [← hg]; exact blk_free hblk3.out _
  have fr2 : W3.frozen? ⟨w1.heap.size, i * 2 + 1, none⟩ = false := by rw [← hg]; exact blk_free hblk3.out _
  have HB3 := Aside0.mk hB3
  have Hg := Aside0.mk hg
  clear hfl1 hb2 hW3 hB3 hB1 hg
  go_wp2
  obtain ⟨W4, hW4⟩ : ∃ W4, W4 = (W3.setCell ⟨w1.heap.size, i * 2, none⟩ (Value.int IntKind.i64 (x.f0 + a1))).setCell ⟨w1.heap.size, i * 2 + 1, none⟩ (Value.int IntKind.i64 (x.f1 - a1)) := ⟨_, rfl⟩
  rw [← hW4]
  have hblk4 : Aside0 (W4.heap[g]? = some (.cells (flat (l0.set i ⟨x.f0 + a1, x.f1 - a1⟩)).toArray 51 (0, 0))) := ⟨by rw [hW4, ← Hg.out]; exact blk_set2 hblk3.out hi (⟨x.f0 + a1, x.f1 - a1⟩ : S51)⟩
  have hB4 : Below w.heap.size w W4 := by rw [hW4, ← Hg.out]; exact (HB3.out.setCell (p := ⟨g, i * 2, none⟩) hge _).setCell (p := ⟨g, i * 2 + 1, none⟩) hge _
  have d1 : W4.cell? (ad.add (i * 2)) = some (.int .i64 x.f0) := pw_cell_below hB4 (hfl.out _ _ (flat_at0 hX.out))
  have d2 : W4.cell? ⟨(ad.add (i * 2)).block, (ad.add (i * 2)).off + 1, none⟩ = some (.int .i64 x.f1) := by rw [← add_field _ _ 1 (by omega)]; exact pw_cell_below hB4 (hfl.out _ _ (flat_at1 hX.out))
  have hset : (l0.set i ⟨x.f0 + a1, x.f1 - a1⟩)[i]? = some ⟨x.f0 + a1, x.f1 - a1⟩ := by simp [hi]
  have o1 : W4.cell? ⟨w1.heap.size, i * 2, none⟩ = some (.int .i64 (x.f0 + a1)) := by rw [← Hg.out, blk_cell_at hblk4.out]; exact flat_at0 hset
  have o2 : W4.cell? ⟨w1.heap.size, i * 2 + 1, none⟩ = some (.int .i64 (x.f1 - a1)) := by rw [← Hg.out, blk_cell_at hblk4.out]; exact flat_at1 hset
  have HB4 := Aside0.mk hB4
  have t1 : (x.f0 + a1 == x.f0 + x.f1) = false := beq_eq_false_iff_ne.2 (by omega)
  have t2 : (x.f1 - a1 == 0) = false := beq_eq_false_iff_ne.2 (by omega)
  have t3 : (a1 == x.f1) = false := beq_eq_false_iff_ne.2 (by omega)
  clear hset hB4 hW4 c1 c2 s1 s2 fr1 fr2 hcp hmk
  have hin : 0 ≤ (i : Int) ∧ (i : Int) < (l0.length : Int) := by omega
  go_region_held3 (fun w' => w'.cell? (ad.add (i * 2)) = some (.int .i64 x.f0) ∧ w'.cell? ⟨(ad.add (i * 2)).block, (ad.add (i * 2)).off + 1, none⟩ = some (.int .i64 x.f1) ∧
      w'.cell? ⟨w1.heap.size, i * 2, none⟩ = some (.int .i64 (x.f0 + a1)) ∧ w'.cell? ⟨w1.heap.size, i * 2 + 1, none⟩ = some (.int .i64 (x.f1 - a1)))
    (first | go_keep | (go_split_ands; refine ⟨?_, ?_, ?_, ?_⟩ <;> (refine pw_cell_below hb ?_; assumption)))
    ((go_at_call 33; refine (end_calls _ _ _ (by omega) (by omega)).mono ?_; rintro e w5 ⟨rfl, hb⟩))
  all_goals clear hin
  all_goals go_wp2
  all_goals go_ret3
  all_goals refine ⟨_, rfl, ?_, ?_⟩
  all_goals first
    | exact HB4.out.trans (below_of hb HB4.out)
    | (have hb5 : w5.heap[w1.heap.size]? = some (.cells (flat (l0.set i ⟨x.f0 + a1, x.f1 - a1⟩) ++ []).toArray 51 (0, 0)) := by
         rw [List.append_nil, hb.block _ (by rw [← Hg.out]; exact (Array.getElem?_eq_some_iff.1 hblk4.out).1), ← Hg.out]; exact hblk4.out
       have hR5 := R_of_blk (base := w.heap.size) (cap := l0.length) hb5 (by rw [← Hg.out]; exact hge) (by rw [List.append_nil, flat_length, List.length_set]) hl
       rw [List.length_set] at hR5
       exact hR5)
set_option maxHeartbeats 1000000 in
theorem take_all (A0 : Option Addr) (c0 : Nat) (l0 : List S51) (a1 : Int) (i : Nat) (w : World) (hr0 : Kd.C k51 w A0 l0.length l0) (hc0 : l0.length ≤ c0)
    (hl : l0.length ≤ 1000) (hi : i < l0.length) (hbest : bestF l0 a1 = (i : Int)) (x : S51) (hx : l0[i]? = some x) (hx0 : 0 ≤ x.f0 ∧ x.f0 ≤ 1099511627776) (ha : 0 < a1 ∧ a1 ≤ x.f1) (hq : Aside0 (a1 = x.f1)) (hx1 : x.f1 ≤ 1099511627776) :
    Calls Try.prog 26 #[.slice A0 l0.length c0, .int .i64 a1] w fun e w' => ∃ v1_ : Value, e = .returned (.tuple #[.int .i64 x.f0, v1_, .bool true]) ∧
      Kd.R k51 51 w' w.heap.size (fun _ => True) v1_ (l0.eraseIdx i) ∧ Below w.heap.size w w' := by
  obtain ⟨ad, hA, hc⟩ := hr0.2.2 (by omega)
  subst hA
  have hR := Aside0.mk hr0
  have hC0 := Aside0.mk hc0
  have hfl := Aside0.mk (flat_reads hr0 rfl)
  have hbst := Aside0.mk (best_is l0 a1 hl)
  have hBf := Aside0.mk hbest
  have hX := Aside0.mk hx
  obtain ⟨Z, hZ, hmk⟩ := make36 l0.length hl
  clear hr0 hc0 hc hbest hx
  go_enter Try.func26, Try.ntmps26
  go_wp2_with fail
  refine (runs_Best.calls _ _ _ _ _ _ _ hR.out hC0.out hbst.out).mono ?_
  rintro e w1 ⟨rfl, hB1⟩
  rw [hBf.out]
  have HB1 := Aside0.mk hB1
  obtain ⟨g, hg⟩ : ∃ g, g = w1.heap.size := ⟨_, rfl⟩
  have hb2 : (w1.alloc (.cells Z 51)).heap[g]? = some (.cells Z 51 (0, 0)) := by rw [hg]; exact heap_alloc_new w1 _
  have hfl1 : ∀ j v, (flat l0)[j]? = some v → (w1.alloc (.cells Z 51)).cell? (ad.add j) = some v := fun j v hv => pw_cell_below (below_alloc hB1 _) (hfl.out j v hv)
  have hcp := fun ty => copy36 (c := c0) ty hb2 hZ (flat_length l0) hfl1 (flat_one l0)
  obtain ⟨W3, hW3⟩ : ∃ W3, W3 = (w1.alloc (.cells Z 51)).setRow g (flat l0).toArray := ⟨_, rfl⟩
  rw [← hW3, hg] at hcp
  have hge : w.heap.size ≤ g := by rw [hg]; exact hB1.size
  have hblk3 : Aside0 (W3.heap[g]? = some (.cells (flat l0).toArray 51 (0, 0))) := ⟨by rw [hW3, setRow_heap _ g _ _ 51 _ hb2]⟩
  have hB3 : Below w.heap.size w W3 := by rw [hW3]; exact below_setRow (below_alloc hB1 _) hge _
  have c1 : W3.cell? (ad.add (i * 2)) = some (.int .i64 x.f0) := pw_cell_below hB3 (hfl.out _ _ (flat_at0 hX.out))
  have c2 : W3.cell? ⟨(ad.add (i * 2)).block, (ad.add (i * 2)).off + 1, none⟩ = some (.int .i64 x.f1) := by rw [← add_field _ _ 1 (by omega)]; exact pw_cell_below hB3 (hfl.out _ _ (flat_at1 hX.out))
  have s1 : W3.cell? ⟨w1.heap.size, i * 2, none⟩ = some (.int .i64 x.f0) := by rw [← hg, blk_cell_at hblk3.out]; exact flat_at0 hX.out
  have s2 : W3.cell? ⟨w1.heap.size, i * 2 + 1, none⟩ = some (.int .i64 x.f1) := by rw [← hg, blk_cell_at hblk3.out]; exact flat_at1 hX.out
  have fr1 : W3.frozen? ⟨w1.heap.size, i * 2, none⟩ = false := by rw [← hg]; exact blk_free hblk3.out _
  have fr2 : W3.frozen? ⟨w1.heap.size, i * 2 + 1, none⟩ = false := by rw [← hg]; exact blk_free hblk3.out _
  have HB3 := Aside0.mk hB3
  have Hg := Aside0.mk hg
  clear hfl1 hb2 hW3 hB3 hB1 hg
  go_wp2
  obtain ⟨W4, hW4⟩ : ∃ W4, W4 = (W3.setCell ⟨w1.heap.size, i * 2, none⟩ (Value.int IntKind.i64 (x.f0 + a1))).setCell ⟨w1.heap.size, i * 2 + 1, none⟩ (Value.int IntKind.i64 (x.f1 - a1)) := ⟨_, rfl⟩
  rw [← hW4]
  have hblk4 : Aside0 (W4.heap[g]? = some (.cells (flat (l0.set i ⟨x.f0 + a1, x.f1 - a1⟩)).toArray 51 (0, 0))) := ⟨by rw [hW4, ← Hg.out]; exact blk_set2 hblk3.out hi (⟨x.f0 + a1, x.f1 - a1⟩ : S51)⟩
  have hB4 : Below w.heap.size w W4 := by rw [hW4, ← Hg.out]; exact (HB3.out.setCell (p := ⟨g, i * 2, none⟩) hge _).setCell (p := ⟨g, i * 2 + 1, none⟩) hge _
  have d1 : W4.cell? (ad.add (i * 2)) = some (.int .i64 x.f0) := pw_cell_below hB4 (hfl.out _ _ (flat_at0 hX.out))
  have d2 : W4.cell? ⟨(ad.add (i * 2)).block, (ad.add (i * 2)).off + 1, none⟩ = some (.int .i64 x.f1) := by rw [← add_field _ _ 1 (by omega)]; exact pw_cell_below hB4 (hfl.out _ _ (flat_at1 hX.out))
  have hset : (l0.set i ⟨x.f0 + a1, x.f1 - a1⟩)[i]? = some ⟨x.f0 + a1, x.f1 - a1⟩ := by simp [hi]
  have o1 : W4.cell? ⟨w1.heap.size, i * 2, none⟩ = some (.int .i64 (x.f0 + a1)) := by rw [← Hg.out, blk_cell_at hblk4.out]; exact flat_at0 hset
  have o2 : W4.cell? ⟨w1.heap.size, i * 2 + 1, none⟩ = some (.int .i64 (x.f1 - a1)) := by rw [← Hg.out, blk_cell_at hblk4.out]; exact flat_at1 hset
  have HB4 := Aside0.mk hB4
  have hq' := hq.out
  have t1 : (x.f0 + a1 == x.f0 + x.f1) = true := beq_iff_eq.2 (by omega)
  have t2 : (x.f1 - a1 == 0) = true := beq_iff_eq.2 (by omega)
  have t3 : (a1 == x.f1) = true := beq_iff_eq.2 (by omega)
  clear hq'
  clear hset hB4 hW4 c1 c2 s1 s2 fr1 fr2 hcp hmk
  have hin : 0 ≤ (i : Int) ∧ (i : Int) < (l0.length : Int) := by omega
  go_region_held3 (fun w' => w'.cell? (ad.add (i * 2)) = some (.int .i64 x.f0) ∧ w'.cell? ⟨(ad.add (i * 2)).block, (ad.add (i * 2)).off + 1, none⟩ = some (.int .i64 x.f1) ∧
      w'.cell? ⟨w1.heap.size, i * 2, none⟩ = some (.int .i64 (x.f0 + a1)) ∧ w'.cell? ⟨w1.heap.size, i * 2 + 1, none⟩ = some (.int .i64 (x.f1 - a1)))
    (first | go_keep | (go_split_ands; refine ⟨?_, ?_, ?_, ?_⟩ <;> (refine pw_cell_below hb ?_; assumption)))
    ((go_at_call 33; refine (end_calls _ _ _ (by omega) (by omega)).mono ?_; rintro e w5 ⟨rfl, hb⟩))
  all_goals clear hin
  all_goals
    have hb5 : w5.heap[w1.heap.size]? = some (.cells (flat (l0.set i ⟨x.f0 + a1, x.f1 - a1⟩)).toArray 51 (0, 0)) := by
      rw [hb.block _ (by rw [← Hg.out]; exact (Array.getElem?_eq_some_iff.1 hblk4.out).1), ← Hg.out]; exact hblk4.out
    have Hb5 := Aside0.mk hb5
    have HB5 := Aside0.mk (HB4.out.trans (below_of hb HB4.out))
    clear hb5 hb
  all_goals go_wp2_with fail
  all_goals (refine (delete_calls _ _ _ _ _ Hb5.out (List.length_set ..) hi hl).mono ?_; rintro e w6 ⟨rfl, hd, hg6⟩)
  all_goals
    have Hd := Aside0.mk hd
    have HB6 := Aside0.mk (HB5.out.grown hg6 (HB5.out.size) (fun k hk => by cases hk; rw [← Hg.out]; exact hge))
    clear hd hg6
  all_goals go_wp2
  all_goals go_ret3
  all_goals refine ⟨_, rfl, ?_, HB6.out⟩
  all_goals
    have hd := Hd.out
    rw [flat_append, List.eraseIdx_set_eq] at hd
    have hR5 := R_of_blk (base := w.heap.size) (cap := l0.length) hd (by rw [← Hg.out]; exact hge) (by rw [List.length_append, flat_length, flat_length, List.length_eraseIdx_of_lt hi]; simp; omega) hl
    rw [List.length_eraseIdx_of_lt hi] at hR5
    exact hR5
set_option maxHeartbeats 1000000 in
theorem take_none (A0 : Option Addr) (c0 : Nat) (l0 : List S51) (a1 : Int) (w : World) (hr0 : Kd.C k51 w A0 l0.length l0) (hc0 : l0.length ≤ c0)
    (hl : l0.length ≤ 1000) (hbest : bestF l0 a1 = -1) :
    Calls Try.prog 26 #[.slice A0 l0.length c0, .int .i64 a1] w fun e w' => e = .returned (.tuple #[.int .i64 0, .slice none 0 0, .bool false]) ∧ Below w.heap.size w w' := by
  have hR := Aside0.mk hr0
  have hC0 := Aside0.mk hc0
  have hbst := Aside0.mk (best_is l0 a1 hl)
  have hBf := Aside0.mk hbest
  clear hr0 hc0 hbest
  go_enter Try.func26, Try.ntmps26
  go_wp2_with fail
  refine (runs_Best.calls _ _ _ _ _ _ _ hR.out hC0.out hbst.out).mono ?_
  rintro e w1 ⟨rfl, hB1⟩
  rw [hBf.out]
  have HB1 := Aside0.mk hB1
  go_wp2
  go_ret3
  exact ⟨rfl, HB1.out⟩
theorem bestUpto_ok (l : List S51) (n : Int) (i : Nat) (h : 0 ≤ bestUpto l n i) : 0 < n ∧ n ≤ (rd_T51 l (bestUpto l n i)).f1 := by
  induction i with
  | zero => simp [bestUpto] at h
  | succ i ih =>
    unfold bestUpto at h ⊢
    split
    · rename_i c
      exact ⟨c.1, c.2.1⟩
    · rename_i c
      rw [if_neg c] at h
      exact ih h
/-- How far runs and their number go here. -/
def fitsR (l : List S51) : Bool := decide (l.length ≤ 1000) && l.all fun x => decide (0 ≤ x.f0 ∧ x.f0 ≤ 1099511627776 ∧ 0 ≤ x.f1 ∧ x.f1 ≤ 1099511627776)
theorem fitsR_len {l : List S51} (h : fitsR l = true) : l.length ≤ 1000 := by simp only [fitsR, Bool.and_eq_true, decide_eq_true_eq] at h; exact h.1
theorem fitsR_mem {l : List S51} (h : fitsR l = true) {x : S51} (hx : x ∈ l) : 0 ≤ x.f0 ∧ x.f0 ≤ 1099511627776 ∧ 0 ≤ x.f1 ∧ x.f1 ≤ 1099511627776 := by
  simp only [fitsR, Bool.and_eq_true, List.all_eq_true, decide_eq_true_eq] at h; exact h.2 x hx
/-- What is left where n pages are taken of run i. -/
def takeAt (l : List S51) (i : Nat) (n : Int) : List S51 := if n < (l.getD i z51).f1 then l.set i ⟨(l.getD i z51).f0 + n, (l.getD i z51).f1 - n⟩ else l.eraseIdx i
def runs_Take.f (l0 : List S51) (a1 : Int) : Option (Int × (List (S51)) × Bool) :=
  if fitsR l0 = true then (if bestF l0 a1 < 0 then some (0, [], false) else some ((l0.getD (bestF l0 a1).toNat z51).f0, takeAt l0 (bestF l0 a1).toNat a1, true)) else none
theorem runs_Take.calls (A0 : Option Addr) (c0 : Nat) (l0 : List (S51)) (a1 : Int) (r1 : Int) (r2 : List (S51)) (r3 : Bool) (w : World) (hr0 : Kd.C k51 w A0 l0.length l0) (hc0 : l0.length ≤ c0) (h : runs_Take.f l0 a1 = some (r1, r2, r3)) :
    Calls Try.prog 26 #[.slice A0 l0.length c0, .int .i64 a1] w fun e w' => ∃ v1_ : Value, e = .returned (.tuple #[.int .i64 r1, v1_, .bool r3]) ∧ Kd.R k51 51 w' w.heap.size (fun _ => True) v1_ r2 ∧ Below w.heap.size w w' := by
  unfold runs_Take.f at h
  by_cases c : fitsR l0 = true
  · rw [if_pos c] at h
    have hb := bestF_lt l0 a1
    by_cases c1 : bestF l0 a1 < 0
    · rw [if_pos c1] at h
      simp only [Option.some.injEq, Prod.mk.injEq] at h
      obtain ⟨rfl, rfl, rfl⟩ := h
      refine (take_none A0 c0 l0 a1 w hr0 hc0 (fitsR_len c) (by omega)).mono ?_
      rintro e w' ⟨rfl, hB⟩
      exact ⟨_, rfl, Kd.R_nil _ _ _ _ _, hB⟩
    · rw [if_neg c1] at h
      obtain ⟨i, hi⟩ : ∃ i : Nat, bestF l0 a1 = (i : Int) := ⟨(bestF l0 a1).toNat, by omega⟩
      have ok := bestUpto_ok l0 a1 l0.length (by show 0 ≤ bestF l0 a1; omega)
      rw [show bestUpto l0 a1 l0.length = bestF l0 a1 from rfl, hi] at ok
      rw [hi, Int.toNat_natCast] at h
      have hil : i < l0.length := by omega
      have hx := List.getElem?_eq_getElem hil
      have hg : l0.getD i z51 = l0[i] := by simp [List.getD_eq_getElem?_getD, hx]
      have ok2 : a1 ≤ l0[i].f1 := by have h2 := ok.2; unfold rd_T51 at h2; rw [Int.toNat_natCast, hg] at h2; exact h2
      have hm := fitsR_mem c (List.getElem_mem hil)
      simp only [Option.some.injEq, Prod.mk.injEq, takeAt, hg] at h
      obtain ⟨rfl, rfl, rfl⟩ := h
      by_cases c2 : a1 < l0[i].f1
      · rw [if_pos c2]
        exact take_some A0 c0 l0 a1 i w hr0 hc0 (fitsR_len c) hil hi _ hx (by omega) (by omega) (by omega)
      · rw [if_neg c2]
        exact take_all A0 c0 l0 a1 i w hr0 hc0 (fitsR_len c) hil hi _ hx (by omega) (by omega) ⟨by omega⟩ (by omega)
  · rw [if_neg c] at h; exact absurd h (by simp)
end Go.Proofs.Ytdkedgdieoojgaa.Rn
