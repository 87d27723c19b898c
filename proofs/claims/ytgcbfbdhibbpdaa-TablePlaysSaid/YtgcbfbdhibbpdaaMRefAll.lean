/- The document's table: what its functions answer, and what they leave as it was. -/
import Derived.Test.YtgcbfbdhibbpdaaSk3
import Derived.Test.YtgcbfbdhibbpdaaMOwn
import Derived.Test.YtgcbfbdhibbpdaaTbx4
import Derived.Test.YtgcbfbdhibbpdaaTbx7
import Derived.Test.YtgcbfbdhibbpdaaTbx9
import Derived.Deep.RegionLaw
import Derived.Test.YtgcbfbdhibbpdaaMAwake
set_option linter.unusedVariables false
set_option linter.unusedSimpArgs false
namespace Go.Proofs.Ytgcbfbdhibbpdaa.Tb
open Go.RowKit Go.Proofs.YtgcbfbdhibbpdaaW.PrintWords Go.Proofs.YtgcbfbdhibbpdaaW.PrintLast Go.Proofs.YtgcbfbdhibbpdaaW.PrintMore
attribute [local go_sem] max2_int min2_int
/-- A slot as the document has it. -/
def c58 (x : S76) : S58 := ⟨x.f0, x.f1, x.f2⟩
/-- The document's table: its two rows are owner j's. -/
structure RS (w : World) (base : Nat) (own : Nat → Nat) (j : Nat) (vs vf : Value) (sl : List S76) (fr : List Int) : Prop where
  s : k58.R 58 w base (tg own j) vs (sl.map c58)
  f : (Kd.int .i64).R 3 w base (tg own j) vf fr
theorem RS.below {w w' : World} {base : Nat} {own : Nat → Nat} {j : Nat} {vs vf : Value} {sl : List S76} {fr : List Int} (h : RS w base own j vs vf sl fr) (hb : Below w.heap.size w w') : RS w' base own j vs vf sl fr := ⟨Kd.R_below h.s hb, Kd.R_below h.f hb⟩
theorem RS.lift {w : World} {base : Nat} {own : Nat → Nat} {i j : Nat} {vs vf : Value} {sl : List S76} {fr : List Int} (h : RS w base own j vs vf sl fr) : RS w base (up own w.heap.size i) j vs vf sl fr := ⟨R_up h.s, R_up h.f⟩
theorem RS.pass {w w' : World} {base : Nat} {own : Nat → Nat} {i j : Nat} {vs vf : Value} {sl : List S76} {fr : List Int} (h : RS w base own i vs vf sl fr) (hf : Fr base (tg (up own w.heap.size j) j) w w') (hij : i ≠ j) : RS w' base (up own w.heap.size j) i vs vf sl fr := ⟨R_pass h.s hf hij, R_pass h.f hf hij⟩
/-- The slots with slot i anew. -/
def withL (sl : List S76) (i : Nat) (x : S76) : List S76 := if i = sl.length then sl ++ [x] else sl.set i x
theorem with_is (kd : Int) (sl : List S76) (fr : List Int) (i : Nat) (x : S76) (hi : i ≤ sl.length) (hl : sl.length ≤ 1000) : steadingref13_with.f kd (sl.map c58) fr i x.f0 x.f1 x.f2 = some (kd, (withL sl i x).map c58, fr) := by
  have hm : (sl.map c58).length = sl.length := by simp
  unfold steadingref13_with.f
  rw [List.length_nil, List.nil_append, if_pos (by omega), Option.bind_some]
  by_cases c : i = sl.length
  · rw [if_pos (by omega), if_pos (by omega), Option.bind_some, if_pos (by omega), if_pos (by simp; omega)]
    unfold withL
    rw [if_pos c, Int.toNat_natCast, c, List.map_append, ← hm, List.set_append_right _ _ (Nat.le_refl _), Nat.sub_self]
    rfl
  · rw [if_neg (by omega), if_pos (by omega), if_pos (by omega), Int.toNat_natCast]
    unfold withL
    rw [if_neg c, List.map_set]
    rfl
theorem with_own {w0 w : World} {base : Nat} (hbe : base = w0.heap.size) {own : Nat → Nat} {j : Nat} {vs vf : Value} {sl : List S76} {fr : List Int} (h : RS w base own j vs vf sl fr) (hB : Below base w0 w) (kd : Int) (i : Nat) (x : S76) (hi : i ≤ sl.length) (hl : sl.length ≤ 1000) :
    Calls Try.prog 42 #[.agg #[.int .i64 kd, vs, vf], .int .i64 i, .agg #[.int .i64 x.f0, .bool x.f1, .int .i64 x.f2]] w fun e w' => ∃ v1 v2, e = .returned (.agg #[.int .i64 kd, v1, v2]) ∧ RS w' base (up own w.heap.size j) j v1 v2 (withL sl i x) fr ∧ Fr base (tg (up own w.heap.size j) j) w w' := by
  subst hbe
  obtain ⟨hS, hF⟩ := h
  obtain ⟨A, c, rfl, hc, hC⟩ := Kd.R_reads hS
  refine (steadingref13_with.calls kd A c (sl.map c58) (fun k => vf.ownBlock = some k) vf fr i x.f0 x.f1 x.f2 _ _ _ w0 w hB ?_ hc (Kd.R_flat (fun h => h) hF (fun k hk _ => hk)) (with_is kd sl fr i x hi hl)).mono ?_
  · intro W hW
    have hS2 : k58.R 58 W w0.heap.size (tg own j) (.slice A (sl.map c58).length c) (sl.map c58) := by
      cases hv : vf.ownBlock with
      | none => exact Kd.R_step hS (fun k _ hk => hW.2 k hk (by rw [hv]; simp))
      | some b =>
        obtain ⟨cells, hcb⟩ := own_typed (Kd.R_own hF).choose_spec b hv
        exact Kd.R_mono (Kd.R_step (Kd.R_types hS hcb (by decide)) (fun k hk2 hk => hW.2 k hk (by rw [hv]; intro e; injection e with e; exact hk2.2 e.symm))) (fun k hk => hk.1)
    obtain ⟨A2, c2, he, _, hC2⟩ := Kd.R_reads hS2
    simp only [Value.slice.injEq, true_and] at he
    rw [he.1]
    exact hC2
  · rintro e w' ⟨v1, v2, rfl, h1, h2, hB2, hK⟩
    have hok : ∀ k, (vf.ownBlock = some k ∨ w.heap.size ≤ k) → tg (up own w.heap.size j) j k := fun k hk => by
      rcases hk with hk | hk
      · show up own w.heap.size j k = j
        rw [up_old (own_lt (Kd.R_own hF).choose_spec k hk)]
        exact hF.1 k hk
      · exact up_new hk
    refine ⟨v1, v2, rfl, ⟨Kd.R_mono h1 hok, Kd.R_mono h2 hok⟩, ⟨⟨hB2.os.trans hB.os.symm, hB2.tape.trans hB.tape.symm, hB2.output.trans hB.output.symm, hK.1, fun k hk => (hB2.block k hk).trans (hB.block k hk).symm⟩, fun k hk hn => hK.2 k hk (fun e => hn (hok k (.inl e)))⟩⟩
/-! ### Live -/
theorem live_l0 (kd : Int) (sl : List S76) (fr : List Int) (h : Int) (hk : 1 ≤ kd ∧ kd ≤ 3) (hG : ∀ x ∈ sl, 0 ≤ x.f2 ∧ x.f2 < 1073741824) (hl : sl.length ≤ 1000) (h0 : 0 ≤ h) (h1 : h < 18446744073709551616) (d : Nat) :
    ∀ (k i : Nat), sl.length - i = d → i ≤ sl.length → d < k → (∀ m, m < i → ¬ (lvS kd (sk sl) h = true ∧ ixn h = m)) → steadingref13_Live.l0 k h (i : Int) kd (sl.map c58) fr = some (if lvS kd (sk sl) h = true then (ixn h : Int) else -1) := by
  have hm : (sl.map c58).length = sl.length := by simp
  induction d with
  | zero =>
    intro k i a1 a2 a3 hno
    obtain ⟨k, rfl⟩ : ∃ m, k = m + 1 := ⟨k - 1, by omega⟩
    unfold steadingref13_Live.l0
    rw [if_neg (by omega), if_neg (fun hl2 => ?_)]
    have hx := (lvS_iff.1 hl2).2.1
    rw [sk_length] at hx
    exact hno (ixn h) (by omega) ⟨hl2, rfl⟩
  | succ d ih =>
    intro k i a1 a2 a3 hno
    obtain ⟨k, rfl⟩ : ∃ m, k = m + 1 := ⟨k - 1, by omega⟩
    have hi : i < sl.length := by omega
    have e : wrap64 ((i : Int) + 1) = ((i + 1 : Nat) : Int) := by unfold wrap64; omega
    have hrd : rd_T58 (sl.map c58) (i : Int) = c58 (sl.getD i z76) := by
      unfold rd_T58
      rw [Int.toNat_natCast, List.getD_eq_getElem?_getD, List.getElem?_map, List.getD_eq_getElem?_getD, List.getElem?_eq_getElem hi]
      rfl
    have hg : 0 ≤ (sl.getD i z76).f2 ∧ (sl.getD i z76).f2 < 1073741824 := by
      rw [List.getD_eq_getElem?_getD, List.getElem?_eq_getElem hi]
      exact hG _ (List.getElem_mem hi)
    obtain ⟨p1, p2, p3, p4, p5⟩ := pk_parts (k := kd) (g := (sl.getD i z76).f2) (i := i) hk (by omega) hg
    have hp := refpack_is kd i (sl.getD i z76).f2 (by omega) (by omega) (by omega)
    have next : (¬ (lvS kd (sk sl) h = true ∧ ixn h = i)) → steadingref13_Live.l0 k h (wrap64 ((i : Int) + 1)) kd (sl.map c58) fr = some (if lvS kd (sk sl) h = true then (ixn h : Int) else -1) := fun hn => by
      rw [e]
      exact ih k (i + 1) (by omega) (by omega) (by omega) (fun m hmm => by
        rcases Nat.lt_or_eq_of_le (Nat.le_of_lt_succ hmm) with hlt | rfl
        · exact hno m hlt
        · exact hn)
    have hsk := sk_getD sl i
    unfold steadingref13_Live.l0
    rw [if_pos (by omega)]
    by_cases c0 : h = 0
    · rw [if_pos c0]
      exact next (fun hh => by have := (lvS_iff.1 hh.1).1; omega)
    · rw [if_neg c0, if_pos (by omega), hrd]
      show (if (sl.getD i z76).f1 = true then _ else _) = _
      by_cases c1 : (sl.getD i z76).f1 = true
      · rw [if_pos c1]
        show ((steadingref12_Pack.f kd i (sl.getD i z76).f2).bind _) = _
        rw [hp, Option.bind_some]
        by_cases c2 : pk kd i (sl.getD i z76).f2 = h
        · rw [if_pos c2]
          have hlv : lvS kd (sk sl) h = true := by
            rw [lvS_iff, ← c2, p3, p4, p5, sk_length, hsk]
            exact ⟨p1, hi, c1, rfl, rfl⟩
          rw [if_pos hlv, ← c2, p3]
        · rw [if_neg c2]
          refine next (fun hh => c2 ?_)
          have := live_pk h1 hh.1
          rw [hh.2, hsk] at this
          exact this.symm
      · rw [if_neg c1]
        refine next (fun hh => c1 ?_)
        have := (lvS_iff.1 hh.1).2.2.1
        rw [hh.2, hsk] at this
        exact this
/-- A handle's slot, or -1. -/
def liveI (kd : Int) (sl : List S76) (h : Int) : Int := if lvS kd (sk sl) h = true then (ixn h : Int) else -1
theorem live_own {w : World} {base : Nat} {own : Nat → Nat} {j : Nat} {vs vf : Value} {sl : List S76} {fr : List Int} (h : RS w base own j vs vf sl fr) (kd hd : Int) (hk : (1 ≤ kd ∧ kd ≤ 3) ∨ sl = []) (hG : Good (sk sl) fr) (h0 : 0 ≤ hd) (h1 : hd < 18446744073709551616) :
    Calls Try.prog 24 #[.agg #[.int .i64 kd, vs, vf], .int .u64 hd] w fun e w' => e = .returned (.int .i64 (liveI kd sl hd)) ∧ Below w.heap.size w w' := by
  obtain ⟨A, c, rfl, hc, hC⟩ := Kd.R_reads h.s
  obtain ⟨A2, c2, rfl, hc2, hC2⟩ := Kd.R_reads h.f
  refine steadingref13_Live.calls (sl.length + 1) kd A c _ A2 c2 _ hd _ w hC hc hC2 hc2 ?_
  have hl := hG.len
  rw [sk_length] at hl
  unfold steadingref13_Live.f liveI
  rcases hk with hk | rfl
  · exact live_l0 kd sl fr hd hk (gen_of hG) (by omega) h0 h1 sl.length (sl.length + 1) 0 (by omega) (by omega) (by omega) (fun m hm => by omega)
  · rw [if_neg (fun hl => by have := (lvS_iff.1 hl).2.1; simp [sk] at this)]
    rfl
end Go.Proofs.Ytgcbfbdhibbpdaa.Tb
/- The document's table: Set, Drop, Add, walked by hand. -/
set_option linter.unusedVariables false
set_option linter.unusedSimpArgs false
namespace Go.Proofs.Ytgcbfbdhibbpdaa.Tb
open Go.RowKit Go.Proofs.YtgcbfbdhibbpdaaW.PrintWords Go.Proofs.YtgcbfbdhibbpdaaW.PrintLast Go.Proofs.YtgcbfbdhibbpdaaW.PrintMore
attribute [local go_sem] max2_int min2_int
theorem tg_back {own : Nat → Nat} {n m j k : Nat} (hnm : n ≤ m) (h : tg (up (up own n 9) m j) j k) : tg (up own n j) j k := by
  show up own n j k = j
  by_cases c : k < n
  · have h2 : up (up own n 9) m j k = j := h
    rw [up_old (Nat.lt_of_lt_of_le c hnm), up_old c] at h2
    rw [up_old c]; exact h2
  · exact up_new (by omega)
theorem RS.back {w : World} {base : Nat} {own : Nat → Nat} {n m j : Nat} {vs vf : Value} {sl : List S76} {fr : List Int} (h : RS w base (up (up own n 9) m j) j vs vf sl fr) (hnm : n ≤ m) : RS w base (up own n j) j vs vf sl fr :=
  ⟨Kd.R_mono h.s (fun k hk => tg_back hnm hk), Kd.R_mono h.f (fun k hk => tg_back hnm hk)⟩
theorem Fr.back {w W w' : World} {base : Nat} {own : Nat → Nat} {j : Nat} (hb : Below w.heap.size w W) (hbase : base ≤ w.heap.size) (h : Fr base (tg (up (up own w.heap.size 9) W.heap.size j) j) W w') : Fr base (tg (up own w.heap.size j) j) w w' :=
  (Fr.of_below hb hbase).trans ⟨h.b, fun i hi hn => h.k i hi (fun e => hn (tg_back hb.size e))⟩
theorem k58_at {w : World} {base : Nat} {ok : Nat → Prop} {vs : Value} {sl : List S76} (h : k58.R 58 w base ok vs (sl.map c58)) {i : Nat} (hi : i < sl.length) :
    ∃ sb c, vs = .slice (some ⟨sb, 0, none⟩) sl.length c ∧ w.cell? ⟨sb, i * 3, none⟩ = some (.int .i64 (sl.getD i z76).f0) ∧ w.cell? ⟨sb, i * 3 + 1, none⟩ = some (.bool (sl.getD i z76).f1) ∧ w.cell? ⟨sb, i * 3 + 2, none⟩ = some (.int .i64 (sl.getD i z76).f2) := by
  have hm : (sl.map c58).length = sl.length := by simp
  obtain ⟨sb, c, rfl, hb, hlt, hcells⟩ := Kd.R_form h (by omega)
  obtain ⟨cs, hcl, hM, hcc, hfr⟩ := Kd.R_elem h z58 (i : Int) (by omega) (by omega)
  have hMM : (i : Int).toNat * k58.sz = i * 3 := by rw [Int.toNat_natCast]; rfl
  rw [hMM] at hcc hfr
  have hcs := k58_openM hM
  rw [Int.toNat_natCast] at hcs
  have hg : (sl.map c58).getD i z58 = c58 (sl.getD i z76) := by
    rw [List.getD_eq_getElem?_getD, List.getElem?_map, List.getD_eq_getElem?_getD, List.getElem?_eq_getElem hi]; rfl
  rw [hg] at hcs
  subst hcs
  rw [hm]
  exact ⟨sb, c, rfl, hcc 0 _ rfl, hcc 1 _ rfl, hcc 2 _ rfl⟩
theorem ret53 {W : World} {b : Nat} {x y z : Value} (h : W.heap[b]? = some (.cells #[x, y, z] 53 (0, 0))) : W.cell? ⟨b, 0, none⟩ = some x ∧ W.cell? ⟨b, 1, none⟩ = some y ∧ W.cell? ⟨b, 2, none⟩ = some z ∧ W.frozen? ⟨b, 0, none⟩ = false ∧ W.frozen? ⟨b, 1, none⟩ = false ∧ W.frozen? ⟨b, 2, none⟩ = false := by
  refine ⟨?_, ?_, ?_, ?_, ?_, ?_⟩ <;> simp [World.cell?, World.frozen?, h]
theorem two_alloc (w : World) (A B : Obj) : ((w.alloc A).alloc B).heap[w.heap.size]? = some A ∧ ((w.alloc A).alloc B).heap[w.heap.size + 1]? = some B ∧ Below w.heap.size w ((w.alloc A).alloc B) ∧ ((w.alloc A).alloc B).heap.size = w.heap.size + 2 := by
  refine ⟨?_, ?_, below_alloc (below_alloc (Below.refl _ _) _) _, by simp⟩
  · exact ((below_alloc (Below.refl (w.alloc A).heap.size (w.alloc A)) B).block _ (by simp)).trans (heap_alloc_new w A)
  · have := heap_alloc_new (w.alloc A) B
    rwa [show (w.alloc A).heap.size = w.heap.size + 1 by simp] at this
theorem set3_all {w : World} {b : Nat} {x y z u u1 u2 : Value} {t : TypeId} (h : w.heap[b]? = some (.cells #[x, y, z] t (0, 0))) : (((w.setCell ⟨b, 0, none⟩ u).setCell ⟨b, 1, none⟩ u1).setCell ⟨b, 2, none⟩ u2).heap[b]? = some (.cells #[u, u1, u2] t (0, 0)) :=
  blk_set (blk_set (blk_set h 0 u) 1 u1) 2 u2
theorem below_set3 {B : Nat} {w w1 : World} (h : Below B w w1) {b : Nat} (hb : B ≤ b) (u u1 u2 : Value) : Below B w (((w1.setCell ⟨b, 0, none⟩ u).setCell ⟨b, 1, none⟩ u1).setCell ⟨b, 2, none⟩ u2) :=
  ((h.setCell (p := ⟨b, 0, none⟩) hb u).setCell (p := ⟨b, 1, none⟩) hb u1).setCell (p := ⟨b, 2, none⟩) hb u2
theorem RS.set53 {w : World} {base : Nat} {own : Nat → Nat} {j : Nat} {vs vf : Value} {sl : List S76} {fr : List Int} (h : RS w base own j vs vf sl fr) {b : Nat} {x y z : Value} (hb : w.heap[b]? = some (.cells #[x, y, z] 53 (0, 0))) (u u1 u2 : Value) :
    RS (((w.setCell ⟨b, 0, none⟩ u).setCell ⟨b, 1, none⟩ u1).setCell ⟨b, 2, none⟩ u2) base own j vs vf sl fr := by
  have h1 := blk_set hb 0 u
  have h2 := blk_set h1 1 u1
  exact ⟨Kd.R_set (Kd.R_set (Kd.R_set h.s hb (by decide) 0 u) h1 (by decide) 1 u1) h2 (by decide) 2 u2, Kd.R_set (Kd.R_set (Kd.R_set h.f hb (by decide) 0 u) h1 (by decide) 1 u1) h2 (by decide) 2 u2⟩
set_option maxRecDepth 4000 in
set_option maxHeartbeats 2000000 in
theorem refset_no {w : World} {base : Nat} {own : Nat → Nat} {j : Nat} {vs vf : Value} {sl : List S76} {fr : List Int} (h : RS w base own j vs vf sl fr) (kd hd v : Int) (hk : (1 ≤ kd ∧ kd ≤ 3) ∨ sl = []) (hG : Good (sk sl) fr) (h0 : 0 ≤ hd) (h1 : hd < 18446744073709551616) (hl : lvS kd (sk sl) hd = false) :
    Calls Try.prog 25 #[.agg #[.int .i64 kd, vs, vf], .int .u64 hd, .int .i64 v] w fun e w' => e = .returned (.tuple #[.agg #[.int .i64 kd, vs, vf], .bool false]) ∧ Below w.heap.size w w' := by
  have HL := Aside0.mk (fun (W : World) (hW : Below w.heap.size w W) => live_own (h.below hW) kd hd hk hG h0 h1)
  rw [show liveI kd sl hd = -1 by unfold liveI; rw [if_neg (by rw [hl]; decide)]] at HL
  obtain ⟨A1, n1, rfl⟩ := Kd.R_slice h.s
  obtain ⟨A2, n2, rfl⟩ := Kd.R_slice h.f
  obtain ⟨m1, hm1⟩ : ∃ m, m = (sl.map c58).length := ⟨_, rfl⟩
  obtain ⟨m2, hm2⟩ : ∃ m, m = fr.length := ⟨_, rfl⟩
  rw [← hm1, ← hm2] at HL ⊢
  clear hm1 hm2
  have H2 := Aside0.mk (two_alloc w (.cells #[.int .i64 kd, .slice A1 m1 n1, .slice A2 m2 n2] 53) (.cells #[.int .i64 0, .slice none 0 0, .slice none 0 0] 53))
  clear hk hG h0 hl h
  go_enter Try.func25, Try.ntmps25
  go_wp2_with fail
  refine (HL.out _ H2.out.2.2.1).mono ?_
  rintro e w3 ⟨rfl, hb3⟩
  have HB3 := Aside0.mk hb3
  have hA := (hb3.block _ (by rw [H2.out.2.2.2]; omega)).trans H2.out.1
  have hB := (hb3.block _ (by rw [H2.out.2.2.2]; omega)).trans H2.out.2.1
  obtain ⟨a0, a1, a2, _, _, _⟩ := ret53 hA
  obtain ⟨b0, b1, b2, f0, f1, f2⟩ := ret53 hB
  have HBB := Aside0.mk hB
  clear hb3 hA hB
  go_wp2
  have HZ := Aside0.mk (set3_all HBB.out (u := .int .i64 kd) (u1 := .slice A1 m1 n1) (u2 := .slice A2 m2 n2))
  have HBZ := Aside0.mk (below_set3 (H2.out.2.2.1.trans (HB3.out.mono H2.out.2.2.1.size)) (b := w.heap.size + 1) (by omega) (.int .i64 kd) (.slice A1 m1 n1) (.slice A2 m2 n2))
  generalize ((w3.setCell ⟨w.heap.size + 1, 0, none⟩ (.int .i64 kd)).setCell ⟨w.heap.size + 1, 1, none⟩ (.slice A1 m1 n1)).setCell ⟨w.heap.size + 1, 2, none⟩ (.slice A2 m2 n2) = W4 at HZ HBZ ⊢
  obtain ⟨c0, c1, c2, _, _, _⟩ := ret53 HZ.out
  exact bodyPost_ret (v := .tuple #[.agg #[.int .i64 kd, .slice A1 m1 n1, .slice A2 m2 n2], .bool false]) (by simp [results, Try.results25, go_sem, c0, c1, c2]) rfl ⟨rfl, HBZ.out⟩
theorem withL_set (sl : List S76) (i : Nat) (v : Int) (hi : i < sl.length) : withL sl i ⟨v, (sl.getD i z76).f1, (sl.getD i z76).f2⟩ = setL sl i v := by
  unfold withL setL
  rw [if_neg (by omega)]
set_option maxRecDepth 4000 in
set_option maxHeartbeats 4000000 in
theorem refset_yes {w0 w : World} {base : Nat} (hbe : base = w0.heap.size) {own : Nat → Nat} {j : Nat} {vs vf : Value} {sl : List S76} {fr : List Int} (h : RS w base own j vs vf sl fr) (hB : Below base w0 w) (hbase : base ≤ w.heap.size) (hj : j ≠ 9) (kd hd v : Int) (hk : 1 ≤ kd ∧ kd ≤ 3) (hG : Good (sk sl) fr) (h0 : 0 ≤ hd) (h1 : hd < 18446744073709551616) (hl : lvS kd (sk sl) hd = true) :
    Calls Try.prog 25 #[.agg #[.int .i64 kd, vs, vf], .int .u64 hd, .int .i64 v] w fun e w' => ∃ v1 v2, e = .returned (.tuple #[.agg #[.int .i64 kd, v1, v2], .bool true]) ∧ RS w' base (up own w.heap.size j) j v1 v2 (setL sl (ixn hd) v) fr ∧ Fr base (tg (up own w.heap.size j) j) w w' := by
  have HL := Aside0.mk (fun (W : World) (hW : Below w.heap.size w W) => live_own (h.below hW) kd hd (.inl hk) hG h0 h1)
  rw [show liveI kd sl hd = ixn hd by unfold liveI; rw [if_pos hl]] at HL
  have hix := (lvS_iff.1 hl).2.1
  rw [sk_length] at hix
  have hlen := hG.len
  rw [sk_length] at hlen
  obtain ⟨i, hi⟩ : ∃ i, i = ixn hd := ⟨_, rfl⟩
  rw [← hi] at hix HL ⊢
  obtain ⟨sb, n1, rfl, e0, e1, e2⟩ := k58_at h.s hix
  obtain ⟨A2, n2, rfl⟩ := Kd.R_slice h.f
  have H := Aside0.mk h
  obtain ⟨x0, hx0⟩ : ∃ x, x = (sl.getD i z76).f0 := ⟨_, rfl⟩
  obtain ⟨x1, hx1⟩ : ∃ x, x = (sl.getD i z76).f1 := ⟨_, rfl⟩
  obtain ⟨x2, hx2⟩ : ∃ x, x = (sl.getD i z76).f2 := ⟨_, rfl⟩
  rw [← hx0] at e0
  rw [← hx1] at e1
  rw [← hx2] at e2
  have HWL := Aside0.mk (withL_set sl i v hix)
  rw [← hx1, ← hx2] at HWL
  have H2 := Aside0.mk (two_alloc w (.cells #[.int .i64 kd, .slice (some ⟨sb, 0, none⟩) sl.length n1, .slice A2 fr.length n2] 53) (.cells #[.int .i64 0, .slice none 0 0, .slice none 0 0] 53))
  have hin1 : 0 ≤ (i : Int) ∧ (i : Int) < (sl.length : Int) := by omega
  have hin2 : (i : Int) < (sl.length : Int) := by omega
  have HBW := Aside0.mk hB
  have HJ := Aside0.mk hj
  clear hk hG h0 hl h hi hx0 hx1 hx2 hB hj
  go_enter Try.func25, Try.ntmps25
  go_wp2_with fail
  refine (HL.out _ H2.out.2.2.1).mono ?_
  rintro e w3 ⟨rfl, hb3⟩
  have HB3 := Aside0.mk hb3
  have hb03 := H2.out.2.2.1.trans (hb3.mono H2.out.2.2.1.size)
  have HB03 := Aside0.mk hb03
  have hA := (hb3.block _ (by rw [H2.out.2.2.2]; omega)).trans H2.out.1
  have hB := (hb3.block _ (by rw [H2.out.2.2.2]; omega)).trans H2.out.2.1
  obtain ⟨a0, a1, a2, _, _, _⟩ := ret53 hA
  replace e0 := pw_cell_below hb03 e0
  replace e1 := pw_cell_below hb03 e1
  replace e2 := pw_cell_below hb03 e2
  have HAA := Aside0.mk hA
  have HBB := Aside0.mk hB
  have hz3 : w.heap.size + 1 < w3.heap.size := Nat.lt_of_lt_of_le (by rw [H2.out.2.2.2]; omega) hb3.size
  have hz3' : w.heap.size < w3.heap.size := by omega
  clear hb3 hA hB hb03
  go_wp2_with fail
  have HB4 := Aside0.mk (below_alloc HB03.out (.cells #[.int .i64 v, .bool x1, .int .i64 x2] 58))
  have HBR := Aside0.mk ((below_alloc (Below.refl w3.heap.size w3) (.cells #[.int .i64 v, .bool x1, .int .i64 x2] 58)).block _ hz3 |>.trans HBB.out)
  obtain ⟨W4, hW4⟩ : ∃ W, W = w3.alloc (.cells #[.int .i64 v, .bool x1, .int .i64 x2] 58) := ⟨_, rfl⟩
  rw [← hW4] at HB4 HBR ⊢
  have HWI := Aside0.mk (with_own hbe ((H.out.lift (i := 9)).below HB4.out) (HBW.out.trans (HB4.out.mono hbase)) kd i ⟨v, x1, x2⟩ (Nat.le_of_lt hix) (by omega))
  rw [HWL.out] at HWI
  have HBZ4 := Aside0.mk (show w.heap.size + 1 < W4.heap.size by rw [hW4]; simp; omega)
  clear hW4 e0 e1 e2 a0 a1 a2 HB3 HB03 HAA HBB hz3 hz3'
  refine HWI.out.mono ?_
  rintro e w5 ⟨v1, v2, rfl, hR5, hF5⟩
  have hb5 := blk_pass HBR.out (up_new (j := 9) (n := w.heap.size) (own := own) (by omega)) hF5 (Ne.symm HJ.out)
  obtain ⟨B1, p1, rfl⟩ := Kd.R_slice hR5.s
  obtain ⟨B2, p2, rfl⟩ := Kd.R_slice hR5.f
  obtain ⟨b0, b1, b2, f0, f1, f2⟩ := ret53 hb5
  have HR5 := Aside0.mk (hR5.back HB4.out.size)
  have HF5 := Aside0.mk (hF5.back HB4.out hbase)
  have HBB := Aside0.mk hb5
  obtain ⟨m1, hm1⟩ : ∃ m, m = ((setL sl i v).map c58).length := ⟨_, rfl⟩
  rw [← hm1] at HR5 ⊢
  have hsz := hF5.b.size
  clear hb5 hR5 hF5 hm1
  go_wp2
  have HZ := Aside0.mk (set3_all HBB.out (u := .int .i64 kd) (u1 := .slice B1 m1 p1) (u2 := .slice B2 fr.length p2))
  have HR6 := Aside0.mk (HR5.out.set53 HBB.out (.int .i64 kd) (.slice B1 m1 p1) (.slice B2 fr.length p2))
  have HF6 := Aside0.mk (((HF5.out.set (b := w.heap.size + 1) (by omega) (up_new (by omega)) 0 (.int .i64 kd)).set (b := w.heap.size + 1) (by omega) (up_new (by omega)) 1 (.slice B1 m1 p1)).set (b := w.heap.size + 1) (by omega) (up_new (by omega)) 2 (.slice B2 fr.length p2))
  generalize ((w5.setCell ⟨w.heap.size + 1, 0, none⟩ (.int .i64 kd)).setCell ⟨w.heap.size + 1, 1, none⟩ (.slice B1 m1 p1)).setCell ⟨w.heap.size + 1, 2, none⟩ (.slice B2 fr.length p2) = W6 at HZ HR6 HF6 ⊢
  obtain ⟨c0, c1, c2, _, _, _⟩ := ret53 HZ.out
  exact bodyPost_ret (v := .tuple #[.agg #[.int .i64 kd, .slice B1 m1 p1, .slice B2 fr.length p2], .bool true]) (by simp [results, Try.results25, go_sem, c0, c1, c2]) rfl ⟨_, _, rfl, HR6.out, HF6.out⟩
theorem RS.set1 {w : World} {base : Nat} {own : Nat → Nat} {j : Nat} {vs vf : Value} {sl : List S76} {fr : List Int} (h : RS w base own j vs vf sl fr) {b : Nat} {cs : Array Value} (hb : w.heap[b]? = some (.cells cs 53 (0, 0))) (i : Nat) (u : Value) :
    RS (w.setCell ⟨b, i, none⟩ u) base own j vs vf sl fr := ⟨Kd.R_set h.s hb (by decide) i u, Kd.R_set h.f hb (by decide) i u⟩
theorem refdrop_end {w W6 w7 w8 : World} {base : Nat} {own o6 : Nat → Nat} {j : Nat} {vs vf v8 : Value} {sl : List S76} {fr fr8 : List Int} (hR6 : RS W6 base o6 j vs vf sl fr) (hF6 : Fr base (tg o6 j) w W6) (hB7 : Below W6.heap.size W6 w7)
    (hR8 : (Kd.int .i64).R 3 w8 w.heap.size (tg (up (up o6 W6.heap.size 8) w7.heap.size 8) 8) v8 fr8) (hF8 : Fr w.heap.size (tg (up (up o6 W6.heap.size 8) w7.heap.size 8) 8) w7 w8) (hbase : base ≤ w.heap.size) (ho : o6 = up own w.heap.size j) (hj : j ≠ 8) :
    RS w8 base o6 j vs v8 sl fr8 ∧ Fr base (tg o6 j) w w8 := by
  have h7 := R_stay (j := 8) hR6.s hB7
  have h8 := R_pass h7 (show Fr base (tg (up (up o6 W6.heap.size 8) w7.heap.size 8) 8) w7 w8 from ⟨hF8.b.mono hbase, hF8.k⟩) hj
  refine ⟨⟨Kd.R_mono h8 (fun k hk => ?_), Kd.R_mono (Kd.R_lower (Kd.R_bound hR8) hbase) (fun k hk => ?_)⟩, ⟨(hF6.b.trans (hB7.mono (Nat.le_trans hbase hF6.b.size))).trans (hF8.b.mono hbase), fun i hi hn => ?_⟩⟩
  · have hk2 : up (up o6 W6.heap.size 8) w7.heap.size 8 k = j := hk
    show o6 k = j
    by_cases c : k < w7.heap.size
    · rw [up_old c] at hk2
      by_cases c2 : k < W6.heap.size
      · rw [up_old c2] at hk2; exact hk2
      · rw [up_new (by omega)] at hk2; exact absurd hk2.symm hj
    · rw [up_new (by omega)] at hk2; exact absurd hk2.symm hj
  · show o6 k = j
    rw [ho]
    exact up_new hk.2.1
  · rw [hF8.b.block i hi, hB7.block i (Nat.lt_of_lt_of_le hi hF6.b.size)]
    exact hF6.k i hi hn
theorem withL_drop (sl : List S76) (i : Nat) (hi : i < sl.length) : withL sl i ⟨0, false, nx (sl.getD i z76).f2⟩ = dropL sl i := by
  unfold withL dropL
  rw [if_neg (by omega)]
set_option maxRecDepth 4000 in
set_option maxHeartbeats 2000000 in
theorem refdrop_no {w : World} {base : Nat} {own : Nat → Nat} {j : Nat} {vs vf : Value} {sl : List S76} {fr : List Int} (h : RS w base own j vs vf sl fr) (kd hd : Int) (hk : (1 ≤ kd ∧ kd ≤ 3) ∨ sl = []) (hG : Good (sk sl) fr) (h0 : 0 ≤ hd) (h1 : hd < 18446744073709551616) (hl : lvS kd (sk sl) hd = false) :
    Calls Try.prog 26 #[.agg #[.int .i64 kd, vs, vf], .int .u64 hd] w fun e w' => e = .returned (.tuple #[.agg #[.int .i64 kd, vs, vf], .bool false]) ∧ Below w.heap.size w w' := by
  have HL := Aside0.mk (fun (W : World) (hW : Below w.heap.size w W) => live_own (h.below hW) kd hd hk hG h0 h1)
  rw [show liveI kd sl hd = -1 by unfold liveI; rw [if_neg (by rw [hl]; decide)]] at HL
  obtain ⟨A1, n1, rfl⟩ := Kd.R_slice h.s
  obtain ⟨A2, n2, rfl⟩ := Kd.R_slice h.f
  obtain ⟨m1, hm1⟩ : ∃ m, m = (sl.map c58).length := ⟨_, rfl⟩
  obtain ⟨m2, hm2⟩ : ∃ m, m = fr.length := ⟨_, rfl⟩
  rw [← hm1, ← hm2] at HL ⊢
  clear hm1 hm2
  have H2 := Aside0.mk (two_alloc w (.cells #[.int .i64 kd, .slice A1 m1 n1, .slice A2 m2 n2] 53) (.cells #[.int .i64 0, .slice none 0 0, .slice none 0 0] 53))
  clear hk hG h0 hl h
  go_enter Try.func26, Try.ntmps26
  go_wp2_with fail
  refine (HL.out _ H2.out.2.2.1).mono ?_
  rintro e w3 ⟨rfl, hb3⟩
  have HB3 := Aside0.mk hb3
  have hA := (hb3.block _ (by rw [H2.out.2.2.2]; omega)).trans H2.out.1
  have hB := (hb3.block _ (by rw [H2.out.2.2.2]; omega)).trans H2.out.2.1
  obtain ⟨a0, a1, a2, _, _, _⟩ := ret53 hA
  obtain ⟨b0, b1, b2, f0, f1, f2⟩ := ret53 hB
  have HBB := Aside0.mk hB
  clear hb3 hA hB
  go_wp2
  have HZ := Aside0.mk (set3_all HBB.out (u := .int .i64 kd) (u1 := .slice A1 m1 n1) (u2 := .slice A2 m2 n2))
  have HBZ := Aside0.mk (below_set3 (H2.out.2.2.1.trans (HB3.out.mono H2.out.2.2.1.size)) (b := w.heap.size + 1) (by omega) (.int .i64 kd) (.slice A1 m1 n1) (.slice A2 m2 n2))
  generalize ((w3.setCell ⟨w.heap.size + 1, 0, none⟩ (.int .i64 kd)).setCell ⟨w.heap.size + 1, 1, none⟩ (.slice A1 m1 n1)).setCell ⟨w.heap.size + 1, 2, none⟩ (.slice A2 m2 n2) = W4 at HZ HBZ ⊢
  obtain ⟨c0, c1, c2, _, _, _⟩ := ret53 HZ.out
  exact bodyPost_ret (v := .tuple #[.agg #[.int .i64 kd, .slice A1 m1 n1, .slice A2 m2 n2], .bool false]) (by simp [results, Try.results26, go_sem, c0, c1, c2]) rfl ⟨rfl, HBZ.out⟩
set_option maxRecDepth 4000 in
set_option maxHeartbeats 4000000 in
theorem refdrop_yes {w0 w : World} {base : Nat} (hbe : base = w0.heap.size) {own : Nat → Nat} {j : Nat} {vs vf : Value} {sl : List S76} {fr : List Int} (h : RS w base own j vs vf sl fr) (hB : Below base w0 w) (hbase : base ≤ w.heap.size) (hj : j ≠ 9) (hj8 : j ≠ 8) (kd hd : Int) (hk : 1 ≤ kd ∧ kd ≤ 3) (hG : Good (sk sl) fr) (h0 : 0 ≤ hd) (h1 : hd < 18446744073709551616) (hl : lvS kd (sk sl) hd = true) :
    Calls Try.prog 26 #[.agg #[.int .i64 kd, vs, vf], .int .u64 hd] w fun e w' => ∃ v1 v2, e = .returned (.tuple #[.agg #[.int .i64 kd, v1, v2], .bool true]) ∧ RS w' base (up own w.heap.size j) j v1 v2 (dropL sl (ixn hd)) (fr ++ [(ixn hd : Int)]) ∧ Fr base (tg (up own w.heap.size j) j) w w' := by
  have HL := Aside0.mk (fun (W : World) (hW : Below w.heap.size w W) => live_own (h.below hW) kd hd (.inl hk) hG h0 h1)
  rw [show liveI kd sl hd = ixn hd by unfold liveI; rw [if_pos hl]] at HL
  have hix := (lvS_iff.1 hl).2.1
  rw [sk_length] at hix
  have hlen := hG.len
  rw [sk_length] at hlen
  obtain ⟨i, hi⟩ : ∃ i, i = ixn hd := ⟨_, rfl⟩
  rw [← hi] at hix HL ⊢
  obtain ⟨sb, n1, rfl, e0, e1, e2⟩ := k58_at h.s hix
  obtain ⟨A2, n2, rfl⟩ := Kd.R_slice h.f
  have H := Aside0.mk h
  obtain ⟨x0, hx0⟩ : ∃ x, x = (sl.getD i z76).f0 := ⟨_, rfl⟩
  obtain ⟨x1, hx1⟩ : ∃ x, x = (sl.getD i z76).f1 := ⟨_, rfl⟩
  obtain ⟨x2, hx2⟩ : ∃ x, x = (sl.getD i z76).f2 := ⟨_, rfl⟩
  rw [← hx0] at e0
  rw [← hx1] at e1
  rw [← hx2] at e2
  have HWL := Aside0.mk (withL_drop sl i hix)
  rw [← hx2] at HWL
  have hgn := hG.genAt i
  rw [sk_getD, ← show x2 = (sl.getD i z76).f2 from hx2] at hgn
  have HGN := Aside0.mk (refnext_is x2 (by have h1 := hgn.1; have h2 := hgn.2; omega))
  have HFL := Aside0.mk hG.flen
  clear hgn
  have H2 := Aside0.mk (two_alloc w (.cells #[.int .i64 kd, .slice (some ⟨sb, 0, none⟩) sl.length n1, .slice A2 fr.length n2] 53) (.cells #[.int .i64 0, .slice none 0 0, .slice none 0 0] 53))
  have hin1 : 0 ≤ (i : Int) ∧ (i : Int) < (sl.length : Int) := by omega
  have hin2 : (i : Int) < (sl.length : Int) := by omega
  have HBW := Aside0.mk hB
  have HJ := Aside0.mk hj
  have HJ8 := Aside0.mk hj8
  clear hj8
  clear hk hG h0 hl h hi hx0 hx1 hx2 hB hj
  go_enter Try.func26, Try.ntmps26
  go_wp2_with fail
  refine (HL.out _ H2.out.2.2.1).mono ?_
  rintro e w3 ⟨rfl, hb3⟩
  have HB3 := Aside0.mk hb3
  have hb03 := H2.out.2.2.1.trans (hb3.mono H2.out.2.2.1.size)
  have HB03 := Aside0.mk hb03
  have hA := (hb3.block _ (by rw [H2.out.2.2.2]; omega)).trans H2.out.1
  have hB := (hb3.block _ (by rw [H2.out.2.2.2]; omega)).trans H2.out.2.1
  obtain ⟨a0, a1, a2, _, _, _⟩ := ret53 hA
  replace e0 := pw_cell_below hb03 e0
  replace e1 := pw_cell_below hb03 e1
  replace e2 := pw_cell_below hb03 e2
  have HAA := Aside0.mk hA
  have HBB := Aside0.mk hB
  have hz3 : w.heap.size + 1 < w3.heap.size := Nat.lt_of_lt_of_le (by rw [H2.out.2.2.2]; omega) hb3.size
  have hz3' : w.heap.size < w3.heap.size := by omega
  clear hb3 hA hB hb03
  obtain ⟨n2x, hn2x⟩ : ∃ n, n = nx x2 := ⟨_, rfl⟩
  rw [← hn2x] at HGN HWL
  have HWI := Aside0.mk (fun (W : World) (hW : Below w.heap.size w W) => with_own hbe ((H.out.lift (i := 9)).below hW) (HBW.out.trans (hW.mono hbase)) kd i ⟨0, false, n2x⟩ (Nat.le_of_lt hix) (by omega))
  rw [HWL.out] at HWI
  have HBD := Aside0.mk (fun (n : Nat) => (pw_below_drewN HB03.out n : Below w.heap.size w (w3.drewN n)))
  clear hn2x
  go_wp2
  go_region_law (first | (go_simp; go_at_call 44; (refine (steadingref12_Next.calls x2 n2x _ HGN.out).mono ?_); rintro e w' ⟨rfl, ⟨⟨nn, rfl⟩⟩⟩) | (go_simp; go_at_call 42; (refine (HWI.out _ (HBD.out _)).mono ?_); rintro e w5 ⟨v1, v2, rfl, hR5, hF5⟩; have hb5 := blk_pass (w := w3.drewN (1 + nn)) HAA.out (up_new (j := 9) (n := w.heap.size) (own := own) (Nat.le_refl _)) hF5 (Ne.symm HJ.out); obtain ⟨B1, p1, rfl⟩ := Kd.R_slice hR5.s; obtain ⟨B2, p2, rfl⟩ := Kd.R_slice hR5.f; obtain ⟨m1, hm1⟩ : ∃ m, m = ((dropL sl i).map c58).length := ⟨_, rfl⟩; rw [← hm1] at hR5 ⊢; have HM1 := Aside0.mk hm1; clear hm1; obtain ⟨b0, b1, b2, f0, f1, f2⟩ := ret53 hb5; have HR5 := Aside0.mk hR5; have HF5 := Aside0.mk hF5; have HAA5 := Aside0.mk hb5; clear hb5 hR5 hF5))
  all_goals
    have HSZ3 := Aside0.mk (show (w3.drewN (1 + nn)).heap.size = w3.heap.size from rfl)
    have hbb5 := blk_pass (w := w3.drewN (1 + nn)) HBB.out (up_new (j := 9) (n := w.heap.size) (own := own) (by omega)) HF5.out (Ne.symm HJ.out)
    have HR6 := Aside0.mk (HR5.out.set53 HAA5.out (.int .i64 kd) (.slice B1 m1 p1) (.slice B2 fr.length p2))
    have HA6 := Aside0.mk (set3_all HAA5.out (u := .int .i64 kd) (u1 := .slice B1 m1 p1) (u2 := .slice B2 fr.length p2))
    have HB6 := Aside0.mk ((show (((w5.setCell ⟨w.heap.size, 0, none⟩ (.int .i64 kd)).setCell ⟨w.heap.size, 1, none⟩ (.slice B1 m1 p1)).setCell ⟨w.heap.size, 2, none⟩ (.slice B2 fr.length p2)).heap[w.heap.size + 1]? = w5.heap[w.heap.size + 1]? from (Below.heap_setCell _ _ _ _ (by simp)).trans ((Below.heap_setCell _ _ _ _ (by simp)).trans (Below.heap_setCell _ _ _ _ (by simp)))).trans hbb5)
    have HF6 := Aside0.mk ((((HF5.out.back (HBD.out (1 + nn)) hbase).set (b := w.heap.size) (by omega) (up_new (by omega)) 0 (.int .i64 kd)).set (b := w.heap.size) (by omega) (up_new (by omega)) 1 (.slice B1 m1 p1)).set (b := w.heap.size) (by omega) (up_new (by omega)) 2 (.slice B2 fr.length p2))
    have HR6 := Aside0.mk (HR6.out.back (HBD.out (1 + nn)).size)
    obtain ⟨W6, hW6⟩ : ∃ W, W = ((w5.setCell ⟨w.heap.size, 0, none⟩ (.int .i64 kd)).setCell ⟨w.heap.size, 1, none⟩ (.slice B1 m1 p1)).setCell ⟨w.heap.size, 2, none⟩ (.slice B2 fr.length p2) := ⟨_, rfl⟩
    rw [← hW6] at HR6 HA6 HB6 HF6 ⊢
    obtain ⟨a0, a1, a2, f0, f1, f2⟩ := ret53 HA6.out
    obtain ⟨A9, c9, he9, _, hC9⟩ := Kd.R_reads HR6.out.f
    simp only [Value.slice.injEq, true_and] at he9
    obtain ⟨he91, he92⟩ := he9
    subst he91 he92
    have HC9 := Aside0.mk hC9
    have hs6 : w.heap.size ≤ W6.heap.size := HF6.out.b.size
    have hs61 : w.heap.size < W6.heap.size := (Array.getElem?_eq_some_iff.1 HA6.out).1
    obtain ⟨o6, ho6⟩ : ∃ o, o = up own w.heap.size j := ⟨_, rfl⟩
    rw [← ho6] at HR6 HF6
    have HO6 := Aside0.mk ho6
    clear hbb5 hW6 hC9 b0 b1 b2 HR5 HF5 HAA5 HAA HBB HBD HSZ3 ho6
    go_wp2_with (first | (at_builtin; refine app_row_new .i64 w.heap.size rfl _ _ 29 3 (.int .i64 0) 8 rfl Try.underlying29 info3 rfl (by decide) fr B2 fr.length p2 o6 8 rfl rfl HC9.out hs6 (by have := HFL.out; omega) ?_; intro v1 w7 hR7 hB7; obtain ⟨A7, c7, hv7⟩ := Kd.R_slice hR7; subst hv7; have hA7 := (hB7.block _ hs61).trans HA6.out; obtain ⟨d0, d1, d2, g0, g1, g2⟩ := ret53 hA7; have HA7 := Aside0.mk hA7; have HR7 := Aside0.mk hR7; have HB7 := Aside0.mk hB7; clear hR7 hB7 hA7) | (at_builtin; refine app_own (Kd.int .i64) w.heap.size rfl _ _ 29 3 _ 8 rfl Try.underlying29 info3 rfl (show 0 < 1 by decide) (by decide) (.slice A7 fr.length c7) fr (i : Int) [.int .i64 (i : Int)] (up o6 W6.heap.size 8) 8 rfl (by first | rfl | (go_simp; done) | (simp; done)) rfl HR7.out (Nat.le_trans hs6 HB7.out.size) (by have := HFL.out; omega) ?_; intro v2 w8 hR8 hF8; obtain ⟨A8, c8, hv8⟩ := Kd.R_slice hR8; subst hv8; have hA8 := blk_pass HA7.out (up_keep (j := 8) (show o6 w.heap.size = j by rw [HO6.out]; exact up_new (Nat.le_refl _)) hs61) hF8 HJ8.out; have hB8 := blk_pass ((HB7.out.block _ (Array.getElem?_eq_some_iff.1 HB6.out).1).trans HB6.out) (up_keep (j := 8) (show o6 (w.heap.size + 1) = j by rw [HO6.out]; exact up_new (by omega)) (Array.getElem?_eq_some_iff.1 HB6.out).1) hF8 HJ8.out; obtain ⟨x0, x1, x2, y0, y1, y2⟩ := ret53 hA8; obtain ⟨z0, z1, z2, t0, t1, t2⟩ := ret53 hB8; have HA8 := Aside0.mk hA8; have HB8 := Aside0.mk hB8; have HR8 := Aside0.mk hR8; have HF8 := Aside0.mk hF8; clear hR8 hF8 hA8 hB8 d0 d1 d2 g0 g1 g2 a0 a1 a2))
    have hlen8 : (fr ++ [(i : Int)]).length = fr.length + 1 := by simp
    have HE := Aside0.mk (refdrop_end HR6.out HF6.out HB7.out HR8.out HF8.out hbase (HO6.out) HJ8.out)
    have HE1 := Aside0.mk (HE.out.1.set1 HA8.out 2 (.slice A8 (fr.length + 1) c8))
    have hb9 := (Below.heap_setCell w8 ⟨w.heap.size, 2, none⟩ (.slice A8 (fr.length + 1) c8) (w.heap.size + 1) (by simp)).trans HB8.out
    have HE2 := Aside0.mk (HE1.out.set53 hb9 (.int .i64 kd) (.slice B1 m1 p1) (.slice A8 (fr.length + 1) c8))
    have HZ := Aside0.mk (set3_all hb9 (u := .int .i64 kd) (u1 := .slice B1 m1 p1) (u2 := .slice A8 (fr.length + 1) c8))
    have HF := Aside0.mk ((((HE.out.2.set (b := w.heap.size) hbase (show o6 w.heap.size = j by rw [HO6.out]; exact up_new (Nat.le_refl _)) 2 (.slice A8 (fr.length + 1) c8)).set (b := w.heap.size + 1) (by omega) (show o6 (w.heap.size + 1) = j by rw [HO6.out]; exact up_new (by omega)) 0 (.int .i64 kd)).set (b := w.heap.size + 1) (by omega) (show o6 (w.heap.size + 1) = j by rw [HO6.out]; exact up_new (by omega)) 1 (.slice B1 m1 p1)).set (b := w.heap.size + 1) (by omega) (show o6 (w.heap.size + 1) = j by rw [HO6.out]; exact up_new (by omega)) 2 (.slice A8 (fr.length + 1) c8))
    obtain ⟨W9, hW9⟩ : ∃ W, W = ((((w8.setCell ⟨w.heap.size, 2, none⟩ (.slice A8 (fr.length + 1) c8)).setCell ⟨w.heap.size + 1, 0, none⟩ (.int .i64 kd)).setCell ⟨w.heap.size + 1, 1, none⟩ (.slice B1 m1 p1)).setCell ⟨w.heap.size + 1, 2, none⟩ (.slice A8 (fr.length + 1) c8)) := ⟨_, rfl⟩
    rw [← hW9] at HE2 HZ HF ⊢
    obtain ⟨q0, q1, q2, _, _, _⟩ := ret53 HZ.out
    rw [← HO6.out]
    have hret := HE2.out
    have hfin := HF.out
    exact bodyPost_ret (v := .tuple #[.agg #[.int .i64 kd, .slice B1 m1 p1, .slice A8 (fr.length + 1) c8], .bool true]) (by simp [results, Try.results26, go_sem, q0, q1, q2]) rfl ⟨_, _, rfl, by rw [← hlen8]; exact hret, hfin⟩
end Go.Proofs.Ytgcbfbdhibbpdaa.Tb
/- The document's table: Add, walked by hand. -/
set_option linter.unusedVariables false
set_option linter.unusedSimpArgs false
namespace Go.Proofs.Ytgcbfbdhibbpdaa.Tb
open Go.RowKit Go.Proofs.YtgcbfbdhibbpdaaW.PrintWords Go.Proofs.YtgcbfbdhibbpdaaW.PrintLast Go.Proofs.YtgcbfbdhibbpdaaW.PrintMore
attribute [local go_sem] max2_int min2_int
set_option maxRecDepth 4000 in
set_option maxHeartbeats 2000000 in
theorem refadd_bad {w : World} {base : Nat} {own : Nat → Nat} {j : Nat} {vs vf : Value} {sl : List S76} {fr : List Int} (h : RS w base own j vs vf sl fr) (kd v : Int) (hk : ¬ (1 ≤ kd ∧ kd ≤ 3)) :
    Calls Try.prog 23 #[.agg #[.int .i64 kd, vs, vf], .int .i64 v] w fun e w' => e = .returned (.tuple #[.agg #[.int .i64 kd, vs, vf], .int .u64 0]) ∧ Below w.heap.size w w' := by
  obtain ⟨A1, n1, rfl⟩ := Kd.R_slice h.s
  obtain ⟨A2, n2, rfl⟩ := Kd.R_slice h.f
  obtain ⟨m1, hm1⟩ : ∃ m, m = (sl.map c58).length := ⟨_, rfl⟩
  obtain ⟨m2, hm2⟩ : ∃ m, m = fr.length := ⟨_, rfl⟩
  rw [← hm1, ← hm2]
  clear hm1 hm2 h
  have H2 := Aside0.mk (two_alloc w (.cells #[.int .i64 kd, .slice A1 m1 n1, .slice A2 m2 n2] 53) (.cells #[.int .i64 kd, .slice A1 m1 n1, .slice A2 m2 n2] 53))
  have hg : ¬ (¬ kd < 1 ∧ ¬ 3 < kd) := by omega
  by_cases c1 : kd < 1
  all_goals
    (try have c3 : 3 < kd := by omega)
    clear hg hk
    go_enter Try.func23, Try.ntmps23
    go_wp2
    generalize (w.alloc (.cells #[.int .i64 kd, .slice A1 m1 n1, .slice A2 m2 n2] 53)).alloc (.cells #[.int .i64 kd, .slice A1 m1 n1, .slice A2 m2 n2] 53) = W4 at H2 ⊢
    obtain ⟨c0, c1, c2, _, _, _⟩ := ret53 H2.out.2.1
    exact bodyPost_ret (v := .tuple #[.agg #[.int .i64 kd, .slice A1 m1 n1, .slice A2 m2 n2], .int .u64 0]) (by simp [results, Try.results23, go_sem, c0, c1, c2]) rfl ⟨rfl, H2.out.2.2.1⟩
/-- What is left to do behind the slots are written: the handle, and what is told. -/
theorem refadd_tail {w W w5 : World} {base : Nat} {own : Nat → Nat} {j : Nat} {v1 v2 : Value} {sl : List S76} {fr : List Int} (hb : Below w.heap.size w W) (hbase : base ≤ w.heap.size) (hR : RS w5 base (up (up own w.heap.size 9) W.heap.size j) j v1 v2 sl fr) (hF : Fr base (tg (up (up own w.heap.size 9) W.heap.size j) j) W w5)
    {x y z x' y' z' : Value} (hA : w5.heap[w.heap.size]? = some (.cells #[x, y, z] 53 (0, 0))) (hB : w5.heap[w.heap.size + 1]? = some (.cells #[x', y', z'] 53 (0, 0))) (kd : Int) (n : Nat) :
    RS (((((((w5.setCell ⟨w.heap.size, 0, none⟩ (.int .i64 kd)).setCell ⟨w.heap.size, 1, none⟩ v1).setCell ⟨w.heap.size, 2, none⟩ v2).drewN n).setCell ⟨w.heap.size + 1, 0, none⟩ (.int .i64 kd)).setCell ⟨w.heap.size + 1, 1, none⟩ v1).setCell ⟨w.heap.size + 1, 2, none⟩ v2) base (up own w.heap.size j) j v1 v2 sl fr ∧
    Fr base (tg (up own w.heap.size j) j) w (((((((w5.setCell ⟨w.heap.size, 0, none⟩ (.int .i64 kd)).setCell ⟨w.heap.size, 1, none⟩ v1).setCell ⟨w.heap.size, 2, none⟩ v2).drewN n).setCell ⟨w.heap.size + 1, 0, none⟩ (.int .i64 kd)).setCell ⟨w.heap.size + 1, 1, none⟩ v1).setCell ⟨w.heap.size + 1, 2, none⟩ v2) ∧
    (((((((w5.setCell ⟨w.heap.size, 0, none⟩ (.int .i64 kd)).setCell ⟨w.heap.size, 1, none⟩ v1).setCell ⟨w.heap.size, 2, none⟩ v2).drewN n).setCell ⟨w.heap.size + 1, 0, none⟩ (.int .i64 kd)).setCell ⟨w.heap.size + 1, 1, none⟩ v1).setCell ⟨w.heap.size + 1, 2, none⟩ v2).heap[w.heap.size + 1]? = some (.cells #[.int .i64 kd, v1, v2] 53 (0, 0)) := by
  have h1 := (hR.back hb.size).set53 hA (.int .i64 kd) v1 v2
  have f1 := (((hF.back hb hbase).set (b := w.heap.size) (by omega) (up_new (by omega)) 0 (.int .i64 kd)).set (b := w.heap.size) (by omega) (up_new (by omega)) 1 v1).set (b := w.heap.size) (by omega) (up_new (by omega)) 2 v2
  have hB1 : (((w5.setCell ⟨w.heap.size, 0, none⟩ (.int .i64 kd)).setCell ⟨w.heap.size, 1, none⟩ v1).setCell ⟨w.heap.size, 2, none⟩ v2).heap[w.heap.size + 1]? = some (.cells #[x', y', z'] 53 (0, 0)) := ((Below.heap_setCell _ _ _ _ (by simp)).trans ((Below.heap_setCell _ _ _ _ (by simp)).trans (Below.heap_setCell _ _ _ _ (by simp)))).trans hB
  generalize ((w5.setCell ⟨w.heap.size, 0, none⟩ (.int .i64 kd)).setCell ⟨w.heap.size, 1, none⟩ v1).setCell ⟨w.heap.size, 2, none⟩ v2 = W6 at h1 f1 hB1 ⊢
  have h2 : RS (W6.drewN n) base (up own w.heap.size j) j v1 v2 sl fr := h1.below (pw_below_drewN (Below.refl _ _) n)
  have f2 : Fr base (tg (up own w.heap.size j) j) w (W6.drewN n) := ⟨⟨f1.b.os, f1.b.tape, f1.b.output, f1.b.size, f1.b.block⟩, f1.k⟩
  have hB2 : (W6.drewN n).heap[w.heap.size + 1]? = some (.cells #[x', y', z'] 53 (0, 0)) := hB1
  exact ⟨h2.set53 hB2 _ _ _, ((f2.set (b := w.heap.size + 1) (by omega) (up_new (by omega)) 0 (.int .i64 kd)).set (b := w.heap.size + 1) (by omega) (up_new (by omega)) 1 v1).set (b := w.heap.size + 1) (by omega) (up_new (by omega)) 2 v2, set3_all hB2⟩
set_option maxRecDepth 4000 in
set_option maxHeartbeats 4000000 in
theorem refadd_new {w0 w : World} {base : Nat} (hbe : base = w0.heap.size) {own : Nat → Nat} {j : Nat} {vs vf : Value} {sl : List S76} (h : RS w base own j vs vf sl []) (hB : Below base w0 w) (hbase : base ≤ w.heap.size) (hj : j ≠ 9) (kd v : Int) (hk : 1 ≤ kd ∧ kd ≤ 3) (hlen : sl.length ≤ 200) :
    Calls Try.prog 23 #[.agg #[.int .i64 kd, vs, vf], .int .i64 v] w fun e w' => ∃ v1 v2, e = .returned (.tuple #[.agg #[.int .i64 kd, v1, v2], .int .u64 (pk kd sl.length 0)]) ∧ RS w' base (up own w.heap.size j) j v1 v2 (sl ++ [⟨v, true, 0⟩]) [] ∧ Fr base (tg (up own w.heap.size j) j) w w' := by
  obtain ⟨A1, n1, rfl⟩ := Kd.R_slice h.s
  obtain ⟨A2, n2, rfl⟩ := Kd.R_slice h.f
  obtain ⟨m, hm⟩ : ∃ m, m = sl.length := ⟨_, rfl⟩
  have hmc : (sl.map c58).length = m := by simp [hm]
  rw [hmc, List.length_nil] at h ⊢
  rw [← hm] at hlen ⊢
  have HWI0 := fun (W : World) (hW : Below w.heap.size w W) => with_own hbe ((h.lift (i := 9)).below hW) (hB.trans (hW.mono hbase)) kd m ⟨v, true, 0⟩ (by omega) (by omega)
  rw [show withL sl m ⟨v, true, 0⟩ = sl ++ [⟨v, true, 0⟩] by unfold withL; rw [if_pos hm]] at HWI0
  have HWI := Aside0.mk HWI0
  have HPK := Aside0.mk (refpack_is kd m 0 (by omega) (by omega) (by omega))
  obtain ⟨p, hp⟩ : ∃ p, p = pk kd m 0 := ⟨_, rfl⟩
  rw [← hp] at HPK ⊢
  have H2 := Aside0.mk (two_alloc w (.cells #[.int .i64 kd, .slice A1 m n1, .slice A2 0 n2] 53) (.cells #[.int .i64 0, .slice none 0 0, .slice none 0 0] 53))
  obtain ⟨W2, hW2⟩ : ∃ W, W = (w.alloc (.cells #[.int .i64 kd, .slice A1 m n1, .slice A2 0 n2] 53)).alloc (.cells #[.int .i64 0, .slice none 0 0, .slice none 0 0] 53) := ⟨_, rfl⟩
  rw [← hW2] at H2
  obtain ⟨a0, a1, a2, _, _, _⟩ := ret53 H2.out.1
  rw [hW2] at a0 a1 a2
  have HW := Aside0.mk hW2
  have HJ := Aside0.mk hj
  have hk1 : ¬ kd < 1 := by omega
  have hk2 : ¬ 3 < kd := by omega
  clear hW2 hm hmc hp HWI0 hj h hB hk
  go_enter Try.func23, Try.ntmps23
  go_wp2_with fail
  rw [← HW.out]
  refine (HWI.out _ H2.out.2.2.1).mono ?_
  rintro e w5 ⟨v1, v2, rfl, hR5, hF5⟩
  have hA5 := blk_pass H2.out.1 (up_new (j := 9) (n := w.heap.size) (own := own) (Nat.le_refl _)) hF5 (Ne.symm HJ.out)
  have hB5 := blk_pass H2.out.2.1 (up_new (j := 9) (n := w.heap.size) (own := own) (by omega)) hF5 (Ne.symm HJ.out)
  obtain ⟨B1, p1, rfl⟩ := Kd.R_slice hR5.s
  obtain ⟨B2, p2, rfl⟩ := Kd.R_slice hR5.f
  obtain ⟨m1, hm1⟩ : ∃ q, q = ((sl ++ [(⟨v, true, 0⟩ : S76)]).map c58).length := ⟨_, rfl⟩
  rw [← hm1, List.length_nil] at hR5 ⊢
  have HTL := Aside0.mk (fun n => refadd_tail H2.out.2.2.1 hbase hR5 hF5 hA5 hB5 kd n)
  obtain ⟨x0, x1, x2, y0, y1, y2⟩ := ret53 hA5
  obtain ⟨z0, z1, z2, t0, t1, t2⟩ := ret53 hB5
  clear hm1 hR5 hF5 hA5 hB5 a0 a1 a2
  go_wp2
  go_region_law (go_simp; go_at_call 43; (refine (steadingref12_Pack.calls kd m 0 p _ HPK.out).mono ?_); rintro e w' ⟨rfl, ⟨⟨nn, rfl⟩⟩⟩)
  all_goals
    have HT := Aside0.mk (HTL.out (1 + nn))
    obtain ⟨W9, hW9⟩ : ∃ W, W = (((((((w5.setCell ⟨w.heap.size, 0, none⟩ (.int .i64 kd)).setCell ⟨w.heap.size, 1, none⟩ (.slice B1 m1 p1)).setCell ⟨w.heap.size, 2, none⟩ (.slice B2 0 p2)).drewN (1 + nn)).setCell ⟨w.heap.size + 1, 0, none⟩ (.int .i64 kd)).setCell ⟨w.heap.size + 1, 1, none⟩ (.slice B1 m1 p1)).setCell ⟨w.heap.size + 1, 2, none⟩ (.slice B2 0 p2)) := ⟨_, rfl⟩
    rw [← hW9] at HT ⊢
    obtain ⟨c0, c1, c2, _, _, _⟩ := ret53 HT.out.2.2
    clear hW9
    go_wp2
    exact bodyPost_ret (v := .tuple #[.agg #[.int .i64 kd, .slice B1 m1 p1, .slice B2 0 p2], .int .u64 p]) (by simp [results, Try.results23, go_sem, c0, c1, c2]) rfl ⟨_, _, rfl, HT.out.1, HT.out.2.1⟩
set_option maxRecDepth 4000 in
set_option maxHeartbeats 4000000 in
theorem refadd_old {w0 w : World} {base : Nat} (hbe : base = w0.heap.size) {own : Nat → Nat} {j : Nat} {vs vf : Value} {sl : List S76} {f : List Int} {i : Nat} (h : RS w base own j vs vf sl (f ++ [(i : Int)])) (hB : Below base w0 w) (hbase : base ≤ w.heap.size) (hj : j ≠ 9) (kd v : Int) (hk : 1 ≤ kd ∧ kd ≤ 3) (hlen : sl.length ≤ 200) (hi : i < sl.length) (hgn : 0 ≤ (sl.getD i z76).f2 ∧ (sl.getD i z76).f2 < 1073741824) (hfl : f.length ≤ 200) :
    Calls Try.prog 23 #[.agg #[.int .i64 kd, vs, vf], .int .i64 v] w fun e w' => ∃ v1 v2, e = .returned (.tuple #[.agg #[.int .i64 kd, v1, v2], .int .u64 (pk kd i (sl.getD i z76).f2)]) ∧ RS w' base (up own w.heap.size j) j v1 v2 (sl.set i ⟨v, true, (sl.getD i z76).f2⟩) f ∧ Fr base (tg (up own w.heap.size j) j) w w' := by
  obtain ⟨sb, n1, rfl, e0, e1, e2⟩ := k58_at h.s hi
  obtain ⟨fb, n2, rfl, e3, _⟩ := row_at h.f (i := f.length) (by simp)
  have hfl1 : (f ++ [(i : Int)]).length = f.length + 1 := by simp
  have hfg : (f ++ [(i : Int)]).getD f.length 0 = i := by simp
  rw [hfg] at e3
  obtain ⟨hcut, hRf⟩ := cut_last (t := 29) (e := 3) Try.underlying29 h.f rfl f.length (by omega) info3
  rw [hfl1] at hcut
  rw [List.take_left' rfl] at hRf
  have hRf2 := hRf
  obtain ⟨gn, hgn2⟩ : ∃ g, g = (sl.getD i z76).f2 := ⟨_, rfl⟩
  rw [← hgn2] at e2 hgn ⊢
  have H2 := Aside0.mk (two_alloc w (.cells #[.int .i64 kd, .slice (some ⟨sb, 0, none⟩) sl.length n1, .slice (some ⟨fb, 0, none⟩) f.length n2] 53) (.cells #[.int .i64 0, .slice none 0 0, .slice none 0 0] 53))
  have HRS := Aside0.mk (show RS w base own j (.slice (some ⟨sb, 0, none⟩) sl.length n1) (.slice (some ⟨fb, 0, none⟩) f.length n2) sl f from ⟨h.s, hRf2⟩)
  have HWI0 := fun (W : World) (hR : RS W base (up own w.heap.size 9) j (.slice (some ⟨sb, 0, none⟩) sl.length n1) (.slice (some ⟨fb, 0, none⟩) f.length n2) sl f) (hW : Below w.heap.size w W) => with_own hbe hR (hB.trans (hW.mono hbase)) kd i ⟨v, true, gn⟩ (Nat.le_of_lt hi) (by omega)
  rw [show withL sl i ⟨v, true, gn⟩ = sl.set i ⟨v, true, gn⟩ by unfold withL; rw [if_neg (by omega)]] at HWI0
  have HWI := Aside0.mk HWI0
  have HPK := Aside0.mk (refpack_is kd i gn (by omega) (by omega) (by omega))
  obtain ⟨p, hp⟩ : ∃ p, p = pk kd i gn := ⟨_, rfl⟩
  rw [← hp] at HPK ⊢
  rw [hfl1]
  obtain ⟨W2, hW2⟩ : ∃ W, W = (w.alloc (.cells #[.int .i64 kd, .slice (some ⟨sb, 0, none⟩) sl.length n1, .slice (some ⟨fb, 0, none⟩) f.length n2] 53)).alloc (.cells #[.int .i64 0, .slice none 0 0, .slice none 0 0] 53) := ⟨_, rfl⟩
  rw [← hW2] at H2
  have HW := Aside0.mk hW2
  have HJ := Aside0.mk hj
  have hk1 : ¬ kd < 1 := by omega
  have hk2 : ¬ 3 < kd := by omega
  have hin1 : 0 ≤ (i : Int) ∧ (i : Int) < (sl.length : Int) := by omega
  have hin2 : (i : Int) < (sl.length : Int) := by omega
  have hflI : (f.length : Int) ≤ 200 := by omega
  have hbs := Aside0.mk (World.block_lt_of_cell? w _ e2)
  have hbs' := hbs.out
  have hbf' := World.block_lt_of_cell? w _ e3
  clear hW2 hp HWI0 hj h hB hk hfl1 hfg hRf hRf2 hgn2 hgn e0 e1
  go_enter Try.func23, Try.ntmps23
  go_wp2_with fail
  rw [← HW.out]
  refine (HWI.out _ ((HRS.out.lift (i := 9)).below H2.out.2.2.1) H2.out.2.2.1).mono ?_
  rintro e w5 ⟨v1, v2, rfl, hR5, hF5⟩
  have hA5 := blk_pass H2.out.1 (up_new (j := 9) (n := w.heap.size) (own := own) (Nat.le_refl _)) hF5 (Ne.symm HJ.out)
  have hB5 := blk_pass H2.out.2.1 (up_new (j := 9) (n := w.heap.size) (own := own) (by omega)) hF5 (Ne.symm HJ.out)
  obtain ⟨B1, p1, rfl⟩ := Kd.R_slice hR5.s
  obtain ⟨B2, p2, rfl⟩ := Kd.R_slice hR5.f
  obtain ⟨m1, hm1⟩ : ∃ q, q = ((sl.set i (⟨v, true, gn⟩ : S76)).map c58).length := ⟨_, rfl⟩
  rw [← hm1] at hR5 ⊢
  have HTL := Aside0.mk (fun n => refadd_tail H2.out.2.2.1 hbase hR5 hF5 hA5 hB5 kd n)
  obtain ⟨x0, x1, x2, y0, y1, y2⟩ := ret53 hA5
  obtain ⟨z0, z1, z2, t0, t1, t2⟩ := ret53 hB5
  clear hm1 hR5 hF5 hA5 hB5 e2 e3 hcut
  go_wp2
  go_region_law (go_simp; go_at_call 43; (refine (steadingref12_Pack.calls kd i gn p _ HPK.out).mono ?_); rintro e w' ⟨rfl, ⟨⟨nn, rfl⟩⟩⟩)
  all_goals
    have HT := Aside0.mk (HTL.out (1 + nn))
    obtain ⟨W9, hW9⟩ : ∃ W, W = (((((((w5.setCell ⟨w.heap.size, 0, none⟩ (.int .i64 kd)).setCell ⟨w.heap.size, 1, none⟩ (.slice B1 m1 p1)).setCell ⟨w.heap.size, 2, none⟩ (.slice B2 f.length p2)).drewN (1 + nn)).setCell ⟨w.heap.size + 1, 0, none⟩ (.int .i64 kd)).setCell ⟨w.heap.size + 1, 1, none⟩ (.slice B1 m1 p1)).setCell ⟨w.heap.size + 1, 2, none⟩ (.slice B2 f.length p2)) := ⟨_, rfl⟩
    rw [← hW9] at HT ⊢
    obtain ⟨c0, c1, c2, _, _, _⟩ := ret53 HT.out.2.2
    clear hW9
    go_wp2
    exact bodyPost_ret (v := .tuple #[.agg #[.int .i64 kd, .slice B1 m1 p1, .slice B2 f.length p2], .int .u64 p]) (by simp [results, Try.results23, go_sem, c0, c1, c2]) rfl ⟨_, _, rfl, HT.out.1, HT.out.2.1⟩
end Go.Proofs.Ytgcbfbdhibbpdaa.Tb
/- The document's table: Handles, walked by hand. -/
set_option linter.unusedVariables false
set_option linter.unusedSimpArgs false
namespace Go.Proofs.Ytgcbfbdhibbpdaa.Tb
open Go.RowKit Go.Proofs.YtgcbfbdhibbpdaaW.PrintWords Go.Proofs.YtgcbfbdhibbpdaaW.PrintLast Go.Proofs.YtgcbfbdhibbpdaaW.PrintMore
attribute [local go_sem] max2_int min2_int
set_option maxRecDepth 100000 in
set_option maxHeartbeats 4000000 in
theorem refhandles {w : World} {base : Nat} {own : Nat → Nat} {j : Nat} {vs vf : Value} {sl : List S76} {fr : List Int} (h : RS w base own j vs vf sl fr) (kd : Int) (hk : -9223372036854775808 ≤ kd ∧ kd ≤ 9223372036854775807) (hgn : ∀ x ∈ sl, 0 ≤ x.f2 ∧ x.f2 < 1073741824) (hsl : sl.length ≤ 1000) :
    Calls Try.prog 29 #[.agg #[.int .i64 kd, vs, vf]] w fun e w' => ∃ v, e = .returned v ∧ (Kd.int .u64).R 27 w' w.heap.size (fun _ => True) v (hfrom kd sl 0) ∧ Below w.heap.size w w' := by
  obtain ⟨A1, n1, rfl⟩ := Kd.R_slice h.s
  obtain ⟨A2, n2, rfl⟩ := Kd.R_slice h.f
  have hmc : (sl.map c58).length = sl.length := by simp
  rw [hmc] at h ⊢
  have HRS := Aside0.mk h
  have HK := Aside0.mk hk
  have HGN := Aside0.mk hgn
  have HBX := Aside0.mk (heap_alloc_new w (.cells #[.int .i64 kd, .slice A1 sl.length n1, .slice A2 fr.length n2] 53))
  have HB0 := Aside0.mk (below_alloc (Below.refl w.heap.size w) (.cells #[.int .i64 kd, .slice A1 sl.length n1, .slice A2 fr.length n2] 53))
  have HSZ := Aside0.mk (show w.heap.size < (w.alloc (.cells #[.int .i64 kd, .slice A1 sl.length n1, .slice A2 fr.length n2] 53)).heap.size by simp)
  obtain ⟨W0, hW0⟩ : ∃ W, W = w.alloc (.cells #[.int .i64 kd, .slice A1 sl.length n1, .slice A2 fr.length n2] 53) := ⟨_, rfl⟩
  rw [← hW0] at HBX HB0 HSZ
  have HW0 := Aside0.mk hW0
  clear h hk hgn hmc hW0
  go_enter Try.func29, Try.ntmps29
  go_wp2_with fail
  rw [← HW0.out]
  go_loopw [3, 4] (fun v i wr => ∃ k : Nat, k ≤ sl.length ∧ i = .int .i64 k ∧ Aside0 ((Kd.int .u64).R 27 wr W0.heap.size (fun _ => True) v (hfrom kd (sl.take k) 0)) ∧ Aside0 (Below W0.heap.size W0 wr)) (fun _ i _ => sl.length - (intOf i).toNat)
  case atStart => exact ⟨0, Nat.zero_le _, rfl, ⟨Kd.R_nil _ _ _ _ _⟩, ⟨Below.refl _ _⟩⟩
  case round =>
    obtain ⟨k, hk, rfl, hV, hB⟩ := hrel
    have hbx := (hB.out.block _ HSZ.out).trans HBX.out
    obtain ⟨a0, a1, a2, _, _, _⟩ := ret53 hbx
    have hlt0 : w.heap.size < wr.heap.size := Nat.lt_of_lt_of_le HSZ.out hB.out.size
    clear hbx
    by_cases hlt : k < sl.length
    · obtain ⟨A9, c9, hv9⟩ := Kd.R_slice hV.out
      subst hv9
      obtain ⟨sb, c, he, e0, e1, e2⟩ := k58_at (Kd.R_below (Kd.R_below HRS.out.s HB0.out) hB.out) hlt
      simp only [Value.slice.injEq, true_and] at he
      obtain ⟨he1, he3⟩ := he
      subst he1 he3
      obtain ⟨x1, hx1⟩ : ∃ x, x = (sl.getD k z76).f1 := ⟨_, rfl⟩
      obtain ⟨x2, hx2⟩ : ∃ x, x = (sl.getD k z76).f2 := ⟨_, rfl⟩
      rw [← hx1] at e1
      rw [← hx2] at e2
      have hin1 : 0 ≤ (k : Int) ∧ (k : Int) < (sl.length : Int) := by omega
      have hin2 : (k : Int) < (sl.length : Int) := by omega
      have hg2 : 0 ≤ x2 ∧ x2 < 1073741824 := by
        rw [hx2, List.getD_eq_getElem?_getD, List.getElem?_eq_getElem hlt]
        exact HGN.out _ (List.getElem_mem hlt)
      have HX := Aside0.mk (hfrom_take kd sl k hlt)
      rw [← hx1, ← hx2] at HX
      have HPK := Aside0.mk (refpack_is kd k x2 HK.out (by omega) (by omega))
      obtain ⟨p, hp⟩ : ∃ p, p = pk kd k x2 := ⟨_, rfl⟩
      rw [← hp] at HPK HX
      have HL := Aside0.mk (show (hfrom kd (sl.take k) 0).length ≤ 1000 by have := hfrom_len kd (sl.take k) 0; simp at this; omega)
      have HVD := Aside0.mk (fun n => Kd.R_drewN hV.out n)
      have HBD := Aside0.mk (fun n => (pw_below_drewN hB.out n : Below W0.heap.size W0 (wr.drewN n)))
      have hs : W0.heap.size ≤ wr.heap.size := hB.out.size
      have HS := Aside0.mk hs
      clear hx1 hx2 hg2 hp hs e0
      cases x1 with
      | false =>
        go_wp2_with fail
        go_roundw
        case rel => exact ⟨k + 1, by omega, by go_num, ⟨by rw [HX.out, if_neg (by decide), List.append_nil]; exact hV.out⟩, hB⟩
        case measure => simp [intOf]; omega
      | true =>
        go_wp2
        go_region_law (first | (go_simp; go_at_call 43; (refine (steadingref12_Pack.calls kd k x2 p _ HPK.out).mono ?_); rintro e w' ⟨rfl, ⟨⟨nn, rfl⟩⟩⟩) | (refine Kd.R_append_step (Kd.int .u64) (w0 := W0) (W := wr.drewN (1 + nn)) W0.heap.size rfl _ _ 26 27 _ 8 rfl Try.underlying26 info27 rfl (show 0 < 1 by decide) (by decide) (.slice A9 (hfrom kd (sl.take k) 0).length c9) (hfrom kd (sl.take k) 0) p [.int .u64 p] (fun _ => True) (fun _ => False) rfl (by first | rfl | (go_simp; done) | (simp; done)) rfl (fun _ h => h.elim) (fun _ _ => trivial) (HVD.out _) (HBD.out _) HS.out (by have := HL.out; omega) ?_; intro v1 w6 hR6 hb6 hg6 hat6; have HR6 := Aside0.mk hR6; have HB6 := Aside0.mk hb6; clear hg6 hat6 hR6 hb6))
        all_goals
          go_wp2
          go_roundw
          case rel => exact ⟨k + 1, by omega, by go_num, ⟨by rw [HX.out, if_pos (by trivial)]; exact HR6.out⟩, HB6⟩
          case measure => simp [intOf]; omega
    · go_wp2
      go_ret
      have e : sl.take k = sl := List.take_of_length_le (by omega)
      rw [e] at hV
      exact ⟨_, rfl, Kd.R_lower hV.out HB0.out.size, below_step HB0.out hB.out⟩
end Go.Proofs.Ytgcbfbdhibbpdaa.Tb
