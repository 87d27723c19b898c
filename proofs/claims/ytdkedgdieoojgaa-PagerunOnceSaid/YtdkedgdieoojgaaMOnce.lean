/- PagerunOnce, walked by hand: no page is taken twice. -/
import Derived.Test.YtdkedgdieoojgaaMPlay
set_option linter.unusedVariables false
set_option linter.unusedSimpArgs false
namespace Go.Proofs.Ytdkedgdieoojgaa.Rn
open Go.ChangeShapes Go.RowKit Go.Proofs.YtdkedgdieoojgaaW.PrintWords Go.Proofs.YtdkedgdieoojgaaW.PrintLast Go.Proofs.YtdkedgdieoojgaaW.PrintMore
/-- A row of 256 bools. -/
def TB (w : World) (gt : Nat) (T : List Bool) : Prop := T.length = 256 ∧ w.heap[gt]? = some (.cells (T.map Value.bool).toArray 4 (0, 0))
theorem TB.cell {w : World} {gt : Nat} {T : List Bool} (h : TB w gt T) {i : Int} (h0 : 0 ≤ i) (h1 : i < 256) : w.cell? ⟨gt, i.toNat, none⟩ = some (.bool (T.getD i.toNat false)) := by
  have hl := h.1
  have hi : i.toNat < T.length := by omega
  simp [World.cell?, h.2, List.getD_eq_getElem?_getD, List.getElem?_eq_getElem hi]
theorem TB.free {w : World} {gt : Nat} {T : List Bool} (h : TB w gt T) (j : Nat) : w.frozen? ⟨gt, j, none⟩ = false := blk_free h.2 j
theorem TB.set {w : World} {gt : Nat} {T : List Bool} (h : TB w gt T) (j : Nat) (b : Bool) : TB (w.setCell ⟨gt, j, none⟩ (.bool b)) gt (T.set j b) := by
  refine ⟨by rw [List.length_set]; exact h.1, blk_put h.2 j _ ?_⟩
  simp [List.setIfInBounds_toArray, List.map_set]
theorem TB.keep {w w1 : World} {gt g : Nat} {T : List Bool} (h : TB w gt T) (hk : KeepBut w w1 g none) (hne : gt ≠ g) : TB w1 gt T :=
  ⟨h.1, (hk.2 _ (Array.getElem?_eq_some_iff.1 h.2).1 hne (by simp)).trans h.2⟩
theorem TB.below {w w1 : World} {gt : Nat} {T : List Bool} (h : TB w gt T) (hb : Below w.heap.size w w1) : TB w1 gt T :=
  ⟨h.1, (hb.block _ (Array.getElem?_eq_some_iff.1 h.2).1).trans h.2⟩
theorem al_set {w : World} {base g gt : Nat} {P : Int} {l : List S51} {t : Int} {T : List Bool} (h : AL w base g P l t) (hT : TB w gt T) (hne : g ≠ gt) (j : Nat) (u : Value) : AL (w.setCell ⟨gt, j, none⟩ u) base g P l t := by
  obtain ⟨h0, v, h, hR⟩ := h
  exact ⟨h0, v, (Below.heap_setCell _ _ _ _ hne).trans h, Kd.R_set hR hT.2 (by decide) j u⟩
def T256 : List Bool := List.replicate 256 false
theorem T256_len : T256.length = 256 := List.length_replicate ..
/-- Which pages are taken. -/
def Tok (P : Int) (l : List S51) (T : List Bool) : Prop := T.length = 256 ∧ ∀ q : Nat, q < 256 → (T.getD q false = true ↔ ((q : Int) < P ∧ ¬ Cov l q))
/-- After so many pages were given back, one by one; or taken. -/
def GT (T0 : List Bool) (pg : Int) (j : Nat) (T : List Bool) : Prop := T.length = 256 ∧ ∀ q : Nat, q < 256 → (T.getD q false = true ↔ (T0.getD q false = true ∧ ¬ (pg ≤ (q : Int) ∧ (q : Int) < pg + j)))
def TT (T0 : List Bool) (pg : Int) (j : Nat) (T : List Bool) : Prop := T.length = 256 ∧ ∀ q : Nat, q < 256 → (T.getD q false = true ↔ (T0.getD q false = true ∨ (pg ≤ (q : Int) ∧ (q : Int) < pg + j)))
theorem getD_set {T : List Bool} {i q : Nat} {b : Bool} (h : i < T.length) : (T.set i b).getD q false = if i = q then b else T.getD q false := by
  rw [List.getD_eq_getElem?_getD, List.getD_eq_getElem?_getD, List.getElem?_set]
  split
  · rename_i e; subst e; rfl
  · rfl
theorem GT.start {T0 : List Bool} {pg : Int} (h : T0.length = 256) : GT T0 pg 0 T0 := ⟨h, fun q _ => ⟨fun h => ⟨h, by omega⟩, fun h => h.1⟩⟩
theorem TT.start {T0 : List Bool} {pg : Int} (h : T0.length = 256) : TT T0 pg 0 T0 := ⟨h, fun q _ => ⟨fun h => .inl h, fun h => h.resolve_right (by omega)⟩⟩
theorem GT.step {T0 T : List Bool} {pg : Int} {j : Nat} (h : GT T0 pg j T) (h0 : 0 ≤ pg) (h1 : pg + j < 256) : GT T0 pg (j + 1) (T.set (pg + j).toNat false) := by
  refine ⟨by rw [List.length_set]; exact h.1, fun q hq => ?_⟩
  rw [getD_set (by have := h.1; omega)]
  by_cases c : (pg + j).toNat = q
  · rw [if_pos c]; exact ⟨fun h => absurd h (by decide), fun h => absurd (show pg ≤ (q : Int) ∧ (q : Int) < pg + ((j + 1 : Nat) : Int) by omega) h.2⟩
  · rw [if_neg c, h.2 q hq]
    exact ⟨fun h => ⟨h.1, by omega⟩, fun h => ⟨h.1, by omega⟩⟩
theorem TT.step {T0 T : List Bool} {pg : Int} {j : Nat} (h : TT T0 pg j T) (h0 : 0 ≤ pg) (h1 : pg + j < 256) : TT T0 pg (j + 1) (T.set (pg + j).toNat true) := by
  refine ⟨by rw [List.length_set]; exact h.1, fun q hq => ?_⟩
  rw [getD_set (by have := h.1; omega)]
  by_cases c : (pg + j).toNat = q
  · rw [if_pos c]; exact ⟨fun _ => .inr (by omega), fun _ => rfl⟩
  · rw [if_neg c, h.2 q hq]
    exact ⟨fun h => h.imp id (by omega), fun h => h.imp id (by omega)⟩
/-- The page that comes next is taken. -/
theorem GT.next {P : Int} {l : List S51} {T0 T : List Bool} {pg n : Int} {j : Nat} (h : GT T0 pg j T) (h0 : Tok P l T0) (hP : P ≤ 256) (hr : rightF l P = true) (hg : giveOk l P pg n = true) (hj : (j : Int) < n) : T.getD (pg + j).toNat false = true := by
  obtain ⟨g1, g2, g3, g4⟩ := (giveOk_iff hr).1 hg
  rw [h.2 _ (by omega), h0.2 _ (by omega)]
  have e : (((pg + j).toNat : Nat) : Int) = pg + j := by omega
  rw [e]
  exact ⟨⟨by omega, g4 _ (by omega) (by omega)⟩, by omega⟩
theorem TT.next {P : Int} {l : List S51} {T0 T : List Bool} {x : S51} {n : Int} {j : Nat} (h : TT T0 x.f0 j T) (h0 : Tok P l T0) (hP : P ≤ 256) (hx0 : 0 ≤ x.f0) (hxP : x.f0 + x.f1 ≤ P) (hxm : x ∈ l) (hn : n ≤ x.f1) (hj : (j : Int) < n) : T.getD (x.f0 + j).toNat false = false := by
  rw [Bool.eq_false_iff, Ne, h.2 _ (by omega), h0.2 _ (by omega)]
  have e : (((x.f0 + j).toNat : Nat) : Int) = x.f0 + j := by omega
  rw [e]
  rintro (⟨_, h⟩ | h)
  · exact h ⟨x, hxm, by omega, by omega⟩
  · omega
theorem GT.done {P : Int} {l : List S51} {T0 T : List Bool} {pg n : Int} {j : Nat} (h : GT T0 pg j T) (h0 : Tok P l T0) (hr : rightF l P = true) (hg : giveOk l P pg n = true) (hj : (j : Int) = n) : Tok P (giveF l pg n) T := by
  obtain ⟨g1, g2, g3⟩ := give_spec hr hg
  refine ⟨h.1, fun q hq => ?_⟩
  rw [h.2 q hq, h0.2 q hq, g2 q, hj]
  constructor
  · rintro ⟨⟨a, b⟩, c⟩; exact ⟨a, fun d => d.elim b c⟩
  · rintro ⟨a, b⟩; exact ⟨⟨a, fun d => b (.inl d)⟩, fun d => b (.inr d)⟩
theorem TT.done {P : Int} {l : List S51} {T0 T : List Bool} {x : S51} {i : Nat} {n : Int} {j : Nat} (h : TT T0 x.f0 j T) (h0 : Tok P l T0) (hr : rightF l P = true) (hx : l[i]? = some x) (hn1 : 1 ≤ n) (hnx : n ≤ x.f1) (hxP : x.f0 + x.f1 ≤ P) (hj : (j : Int) = n) : Tok P (takeAt l i n) T := by
  obtain ⟨t1, t2, t3⟩ := take_spec_from l P (-1) i x n hr hx hn1 hnx
  refine ⟨h.1, fun q hq => ?_⟩
  rw [h.2 q hq, h0.2 q hq, t2 q, hj]
  constructor
  · rintro (⟨a, b⟩ | c)
    · exact ⟨a, fun d => b d.1⟩
    · exact ⟨by omega, fun d => d.2 c⟩
  · rintro ⟨a, b⟩
    by_cases d : x.f0 ≤ (q : Int) ∧ (q : Int) < x.f0 + n
    · exact .inr d
    · exact .inl ⟨a, fun e => b ⟨e, d⟩⟩
theorem Tok.start {P : Int} (hP : 1 ≤ P ∧ P ≤ 256) : Tok P [⟨0, P⟩] T256 := by
  refine ⟨T256_len, fun q hq => ?_⟩
  unfold T256
  rw [List.getD_eq_getElem?_getD, List.getElem?_replicate, if_pos hq]
  constructor
  · intro h; exact absurd h (by decide)
  · rintro ⟨a, b⟩; exact absurd ⟨⟨0, P⟩, List.mem_cons_self, by show (0 : Int) ≤ q; omega, by show (q : Int) < 0 + P; omega⟩ b
theorem make_bools : ∀ W : World, (Instr.makeSlice 53 (.int .i64 256) (.int .i64 256)).run Try.prog W = .ok (.slice (some ⟨W.heap.size, 0, none⟩) 256 256) (W.alloc (.cells (T256.map Value.bool).toArray 4)) := by
  intro W
  have hinfo : (Try.prog.info? 4).map (fun i => (i.zero, i.size, i.bytes)) = some (some (.bool false), 1, 1) := by kernel_rfl
  obtain ⟨i0, hi0, hz0, hz1, hz2⟩ := info_parts hinfo
  have h := run_make (P := Try.prog) W 53 4 i0 _ Try.underlying53 hi0 hz0 .i64 .i64 256 256 (by omega) (Int.le_refl _) (by rw [hz2]; omega) (by omega)
  rw [hz1] at h
  have e : madeCells (Value.bool false).cells ((256 : Int).toNat * 1) = (T256.map Value.bool).toArray := by kernel_rfl
  rw [e] at h
  exact h

set_option maxHeartbeats 8000000 in
set_option maxRecDepth 100000 in
theorem once_walk (p : Int) (A : Option Addr) (c : Nat) (acts : List Act3) (w : World) (hC : ActC w A acts) (hp : 0 ≤ p ∧ p ≤ 255) :
    Calls Try.prog 7 #[.int .u8 p, .slice A acts.length c] w fun e w' => e = .returned (.bool true) ∧ Below w.heap.size w w' := by
  have HC := Aside0.mk hC
  have HMK := make_bools
  clear hC
  by_cases hlen : 60 < acts.length
  · have h60 : (60 : Int) < (acts.length : Int) := by omega
    go_enter Try.func7, Try.ntmps7
    go_wp2_with fail
    refine (awake_calls _).mono ?_
    rintro e w1 ⟨rfl, hb⟩
    have HB1 := Aside0.mk hb
    clear hb
    go_wp2_with fail
    go_ret
    exact ⟨rfl, HB1.out⟩
  · have h60 : ¬ (60 : Int) < (acts.length : Int) := by omega
    go_enter Try.func7, Try.ntmps7
    go_wp2_with fail
    refine (awake_calls _).mono ?_
    rintro e w1 ⟨rfl, hb⟩
    have HB1 := Aside0.mk hb
    clear hb
    have hp1 : 0 ≤ p := hp.1
    have hp2 : p ≤ 255 := hp.2
    go_wp2_with fail
    refine (new_calls _ _).mono ?_
    rintro e w2 ⟨g, rfl, hA, hb⟩
    obtain ⟨P, hP⟩ : ∃ P, P = min (max p 1) 1048576 := ⟨_, rfl⟩
    rw [← hP] at hA
    have hP1 : 1 ≤ P ∧ P ≤ 255 := by omega
    have HA2 := Aside0.mk (show AL w2 w.heap.size g P [⟨0, P⟩] 0 from ⟨Nat.le_trans HB1.out.size hA.1, hA.2.imp fun v h => ⟨h.1, Kd.R_lower h.2 HB1.out.size⟩⟩)
    have HB2 := Aside0.mk (below_step HB1.out hb)
    clear hA hb hP
    go_wp2
    have HTB := Aside0.mk (show TB (w2.alloc (.cells (T256.map Value.bool).toArray 4)) w2.heap.size T256 from ⟨T256_len, heap_alloc_new w2 _⟩)
    obtain ⟨gt, hgt⟩ : ∃ gt, gt = w2.heap.size := ⟨_, rfl⟩
    have hne : g ≠ gt := by have := HA2.out.lt; omega
    have hgb : w.heap.size ≤ gt := by have := HB2.out.size; omega
    have HA3 := Aside0.mk (HA2.out.below (below_alloc (Below.refl _ _) (.cells (T256.map Value.bool).toArray 4)))
    have HB3 := Aside0.mk (below_alloc HB2.out (.cells (T256.map Value.bool).toArray 4))
    rw [← hgt] at HTB ⊢
    obtain ⟨W3, hW3⟩ : ∃ W, W = (w2.alloc (.cells (T256.map Value.bool).toArray 4)) := ⟨_, rfl⟩
    rw [← hW3] at HTB HA3 HB3 ⊢
    clear hW3 HMK hgt
    go_loopw [8, 9] (fun vn vi wr => ∃ (k : Nat) (l : List S51) (t : Int) (T : List Bool), k ≤ acts.length ∧ vi = .int .i64 k ∧ vn = .int .i64 (P - totalF l) ∧ Aside0 (Inv P k l t) ∧ Aside0 (Tok P l T) ∧ Aside0 (AL wr w.heap.size g P l t) ∧ Aside0 (TB wr gt T) ∧ Aside0 (Below w.heap.size w wr)) (fun vn vi _ => acts.length - (intOf vi).toNat)
    case atStart => exact ⟨0, [⟨0, P⟩], 0, T256, Nat.zero_le _, rfl, by simp [totalF], ⟨Inv.start (by omega)⟩, ⟨Tok.start (by omega)⟩, HA3, HTB, HB3⟩
    case round =>
      obtain ⟨k, l, t, T, hk, rfl, rfl, hI, hTok, hA, hT, hB⟩ := hrel
      have htm := total_max hI.out.hr (show 0 ≤ P by omega)
      obtain ⟨F0, hF0⟩ : ∃ F, F = totalF l := ⟨_, rfl⟩
      rw [← hF0] at htm ⊢
      have htm1 : 0 ≤ F0 := htm.1
      have htm2 : F0 ≤ P := htm.2
      have HF0 := Aside0.mk hF0
      clear hF0 htm HA2 HB2 HB3 HA3 HTB
      by_cases hlt : k < acts.length
      · obtain ⟨ad, hAd, hcells⟩ := HC.out (by omega)
        subst hAd
        obtain ⟨e1, e2, e3⟩ := hcells k _ (List.getElem?_eq_getElem hlt)
        obtain ⟨a, ha⟩ : ∃ a, a = acts[k] := ⟨_, rfl⟩
        rw [← ha] at e1 e2 e3
        have hlo : (ad.add (k * 3)).block < w.heap.size := World.block_lt_of_cell? w _ e1
        have E2 := Aside0.mk e2
        have E3 := Aside0.mk e3
        replace e1 := pw_cell_below hB.out e1
        replace e2 := pw_cell_below hB.out e2
        replace e3 := pw_cell_below hB.out e3
        clear ha hcells
        have hin : 0 ≤ (k : Int) ∧ (k : Int) < (acts.length : Int) := by omega
        have hin2 : (k : Int) < (acts.length : Int) := by omega
        cases hgv : a.gv with
        | true =>
          rw [hgv] at e1
          cases hok : giveOk l P a.pg a.n with
          | false =>
            have hdid : did P l a = false := by unfold did; rw [hgv, if_pos rfl]; exact hok
            have hpt := Aside0.mk (fun (W : World) (h : AL W w.heap.size g P l t) => by
              have := play_give h hI.out a hgv
              unfold playL playT at this
              rw [hdid] at this
              exact this)
            go_wp2
            go_region_held3 (fun w' => w'.cell? ⟨(ad.add (k * 3)).block, (ad.add (k * 3)).off + 1, none⟩ = some (.int .i64 a.pg) ∧ w'.cell? ⟨(ad.add (k * 3)).block, (ad.add (k * 3)).off + 2, none⟩ = some (.int .i64 a.n))
              (first | go_keep | (go_split_ands; refine ⟨?_, ?_⟩ <;> (refine (hK5.b.cell (p := ⟨(ad.add (k * 3)).block, _, none⟩) hlo).trans ?_; assumption)))
              ((go_at_call 10; refine (hpt.out _ (hA.out.below (below_drew (Below.refl _ _)))).mono ?_; rintro e w5 ⟨rfl, hA5, hK5⟩))
            all_goals
              have HA5 := Aside0.mk (show AL w5 w.heap.size g P l t from hA5)
              have HT5 := Aside0.mk ((hT.out.below (below_drew (Below.refl _ _))).keep hK5.k (fun e => hne e.symm))
              have HB5 := Aside0.mk (hB.out.trans ((below_drew (Below.refl _ _)).trans hK5.b))
              clear hA5 hK5 e1 e2 e3
            go_wp2
            go_roundw
            case rel => exact ⟨k + 1, l, t, T, by omega, by go_num, by rw [HF0.out], ⟨by have := hI.out; exact ⟨this.hP, this.hr, by have := this.hn; omega, by omega, by have := this.ht; omega⟩⟩, hTok, HA5, HT5, HB5⟩
            case measure => simp [intOf]; omega
          | true =>
            have hdid : did P l a = true := by unfold did; rw [hgv, if_pos rfl]; exact hok
            obtain ⟨g1, g2, g3, g4⟩ := (giveOk_iff hI.out.hr).1 hok
            obtain ⟨_, _, gT⟩ := give_spec hI.out.hr hok
            obtain ⟨L2, hL2⟩ : ∃ L, L = giveF l a.pg a.n := ⟨_, rfl⟩
            have HIe := Aside0.mk (show Inv P (k + 1) L2 (t + 1 + l.length) by
              have := hI.out.play (by omega) a
              unfold playL playT at this
              rw [hdid, if_pos rfl, if_pos rfl, if_pos hgv, ← hL2] at this
              exact this)
            rw [← hL2] at gT
            have HGT := Aside0.mk gT
            have HL2 := Aside0.mk hL2
            have hpt := Aside0.mk (fun (W : World) (h : AL W w.heap.size g P l t) => by
              have := play_give h hI.out a hgv
              unfold playL playT at this
              rw [hdid, if_pos rfl, if_pos rfl, if_pos rfl, if_pos hgv, ← hL2] at this
              exact this)
            have HOK := Aside0.mk hok
            clear hok gT hL2 g4
            go_wp2
            go_region_held3 (fun w' => w'.cell? ⟨(ad.add (k * 3)).block, (ad.add (k * 3)).off + 1, none⟩ = some (.int .i64 a.pg) ∧ w'.cell? ⟨(ad.add (k * 3)).block, (ad.add (k * 3)).off + 2, none⟩ = some (.int .i64 a.n))
              (first | go_keep | (go_split_ands; refine ⟨?_, ?_⟩ <;> (refine (hK5.b.cell (p := ⟨(ad.add (k * 3)).block, _, none⟩) hlo).trans ?_; assumption)))
              ((go_at_call 10; refine (hpt.out _ (hA.out.below (below_drew (Below.refl _ _)))).mono ?_; rintro e w5 ⟨rfl, hA5, hK5⟩))
            all_goals
              have HA5 := Aside0.mk hA5
              have HT5 := Aside0.mk ((hT.out.below (below_drew (Below.refl _ _))).keep hK5.k (fun e => hne e.symm))
              have HB5 := Aside0.mk (hB.out.trans ((below_drew (Below.refl _ _)).trans hK5.b))
              clear hA5 hK5 e1 e2 e3
            go_wp2
            go_loopw [8, 10] (fun vn vj wr => ∃ (j : Nat) (T2 : List Bool), (j : Int) ≤ a.n ∧ vj = .int .i64 j ∧ vn = .int .i64 (P - F0 - j) ∧ Aside0 (GT T a.pg j T2) ∧ Aside0 (AL wr w.heap.size g P L2 (t + 1 + l.length)) ∧ Aside0 (TB wr gt T2) ∧ Aside0 (Below w.heap.size w wr)) (fun vn vj _ => a.n.toNat - (intOf vj).toNat)
            case atStart => exact ⟨0, T, by omega, rfl, by simp, ⟨GT.start hTok.out.1⟩, HA5, HT5, HB5⟩
            case round =>
              obtain ⟨j, T2, hj, rfl, rfl, hG, hA2, hT2, hB2⟩ := hrel
              have e2 := pw_cell_below hB2.out E2.out
              have e3 := pw_cell_below hB2.out E3.out
              have hj0 : (0 : Int) ≤ j := by omega
              by_cases hjn : (j : Int) < a.n
              · have hq0 : 0 ≤ a.pg + (j : Int) ∧ a.pg + (j : Int) < 256 := by omega
                have hq1 : 0 ≤ a.pg + (j : Int) := hq0.1
                have hq2 : a.pg + (j : Int) < 256 := hq0.2
                have hcell := hT2.out.cell hq1 hq2
                rw [hG.out.next hTok.out (by omega) hI.out.hr HOK.out hjn] at hcell
                have hfr := hT2.out.free (a.pg + (j : Int)).toNat
                go_wp2
                go_roundw
                case rel =>
                  refine ⟨j + 1, _, by omega, by go_num, by congr 1; omega, ⟨hG.out.step (by omega) hq2⟩, ⟨al_set hA2.out hT2.out hne _ _⟩, ⟨hT2.out.set _ _⟩, ⟨hB2.out.setCell (p := ⟨gt, _, none⟩) hgb _⟩⟩
                case measure => simp [intOf]; omega
              · have hje : (j : Int) = a.n := by omega
                have HKe := Aside0.mk (show Tok P L2 T2 by have := hG.out.done hTok.out hI.out.hr HOK.out hje; rw [← HL2.out] at this; exact this)
                have HAe := hA2
                have HTe := hT2
                have HBe := hB2
                have hFe : P - F0 - (j : Int) = P - totalF L2 := by rw [HGT.out, HF0.out]; omega
                rw [hFe]
                clear hFe
                obtain ⟨F, hF⟩ : ∃ F, F = totalF L2 := ⟨_, rfl⟩
                have hFb : 0 ≤ F ∧ F ≤ P := by have := total_max HIe.out.hr (show 0 ≤ P by omega); omega
                have hF0 : 0 ≤ F := hFb.1
                have hF1 : F ≤ P := hFb.2
                have hFt : (F != P - (P - F)) = false := by rw [show P - (P - F) = F by omega]; simp
                have hlen2 : L2.length ≤ 1000 := fitsR_len HIe.out.fits
                have hright := Aside0.mk (show runs_Right.f 2000 L2 P = some true by rw [right_is L2 P (fun x hx => by have := rf_mem HIe.out.hr x hx; unfold i64; omega) (by unfold i64; omega) hlen2 2000 (by omega), show rightF L2 P = true from HIe.out.hr])
                have HFR := Aside0.mk hF
                rw [← hF]
                clear hF hFb
                go_wp2_with fail
                refine (free_calls HAe.out HIe.out.fits).mono ?_
                rintro e wa ⟨rfl, hb⟩
                rw [← HFR.out]
                have HAa := Aside0.mk (HAe.out.below hb)
                have HTa := Aside0.mk (HTe.out.below hb)
                have HBa := Aside0.mk (below_step HBe.out hb)
                clear hb
                go_wp2_with fail
                refine (pages_calls HAa.out).mono ?_
                rintro e wb ⟨rfl, rfl⟩
                go_wp2_with fail
                refine (runs_calls HAa.out hlen2).mono ?_
                rintro e wc ⟨v9, rfl, hR9, hb9⟩
                obtain ⟨A9, c9, rfl, hc9, hC9⟩ := Kd.R_reads hR9
                have HC9 := Aside0.mk hC9
                have HCC9 := Aside0.mk hc9
                have HAc := Aside0.mk (HAa.out.below hb9)
                have HTc := Aside0.mk (HTa.out.below hb9)
                have HBc := Aside0.mk (below_step HBa.out hb9)
                clear hR9 hb9 hC9 hc9
                go_wp2_with fail
                refine (pages_calls HAc.out).mono ?_
                rintro e wd ⟨rfl, rfl⟩
                go_wp2_with fail
                refine (runs_Right.calls 2000 _ _ L2 P true _ HC9.out HCC9.out hright.out).mono ?_
                rintro e we ⟨rfl, hb10⟩
                have HAf := Aside0.mk (HAc.out.below hb10)
                have HTf := Aside0.mk (HTc.out.below hb10)
                have HBf := Aside0.mk (below_step HBc.out hb10)
                clear hb10
                go_wp2_with fail
                go_roundw
                case rel => exact ⟨k + 1, L2, _, T2, by omega, by go_num, by rw [HFR.out], HIe, HKe, HAf, HTf, HBf⟩
                case measure => simp [intOf]; omega
        | false =>
          rw [hgv] at e1
          by_cases hN : 1 ≤ a.n ∧ ¬ bestF l a.n < 0
          · obtain ⟨i, x, hi, hx, hg, _, hn1, hnx, hx0, hxP, hxm⟩ := best_some hI.out.hr hN.2
            obtain ⟨_, _, tT⟩ := take_spec_from l P (-1) i x a.n hI.out.hr hx hn1 hnx
            obtain ⟨L2, hL2⟩ : ∃ L, L = takeAt l i a.n := ⟨_, rfl⟩
            have hdid : did P l a = true := by
              unfold did; rw [hgv, if_neg (by decide), Bool.and_eq_true, decide_eq_true_eq, decide_eq_true_eq]; omega
            have HIe := Aside0.mk (show Inv P (k + 1) L2 (t + 1 + l.length) by
              have := hI.out.play (by omega) a
              unfold playL playT at this
              rw [hdid, if_pos rfl, if_pos rfl, if_neg (by rw [hgv]; decide), hi, Int.toNat_natCast, ← hL2] at this
              exact this)
            rw [← hL2] at tT
            have hpt := Aside0.mk (fun (W : World) (h : AL W w.heap.size g P l t) => by
              have := take_calls h hI.out.fits hI.out.tb a.n hN.1 hN.2
              rw [hi, Int.toNat_natCast, hg, ← hL2] at this
              exact this)
            have HGT := Aside0.mk tT
            have HL2 := Aside0.mk hL2
            have HX := Aside0.mk hx
            have HXM := Aside0.mk hxm
            have hxb : x.f0 + x.f1 ≤ 255 := by omega
            clear tT hL2 hi hg hx hxm hN
            go_wp2_with fail
            refine (hpt.out _ hA.out).mono ?_
            rintro e w5 ⟨rfl, hA5, hK5⟩
            have HA5 := Aside0.mk hA5
            have HT5 := Aside0.mk (hT.out.keep hK5.k (fun e => hne e.symm))
            have HB5 := Aside0.mk (hB.out.trans hK5.b)
            clear hA5 hK5 e1 e2 e3
            go_wp2
            go_loopw [8, 13] (fun vn vj wr => ∃ (j : Nat) (T2 : List Bool), (j : Int) ≤ a.n ∧ vj = .int .i64 j ∧ vn = .int .i64 (P - F0 + j) ∧ Aside0 (TT T x.f0 j T2) ∧ Aside0 (AL wr w.heap.size g P L2 (t + 1 + l.length)) ∧ Aside0 (TB wr gt T2) ∧ Aside0 (Below w.heap.size w wr)) (fun vn vj _ => a.n.toNat - (intOf vj).toNat)
            case atStart => exact ⟨0, T, by omega, rfl, by simp, ⟨TT.start hTok.out.1⟩, HA5, HT5, HB5⟩
            case round =>
              obtain ⟨j, T2, hj, rfl, rfl, hG, hA2, hT2, hB2⟩ := hrel
              have e3 := pw_cell_below hB2.out E3.out
              have hj0 : (0 : Int) ≤ j := by omega
              by_cases hjn : (j : Int) < a.n
              · have hq0 : 0 ≤ x.f0 + (j : Int) ∧ x.f0 + (j : Int) < 256 := by omega
                have hq1 : 0 ≤ x.f0 + (j : Int) := hq0.1
                have hq2 : x.f0 + (j : Int) < 256 := hq0.2
                have hqP : x.f0 + (j : Int) < P := by omega
                have hcell := hT2.out.cell hq1 hq2
                rw [hG.out.next hTok.out (by omega) hx0 hxP HXM.out hnx hjn] at hcell
                have hfr := hT2.out.free (x.f0 + (j : Int)).toNat
                go_wp2_with fail
                refine (pages_calls hA2.out).mono ?_
                rintro e w6 ⟨rfl, rfl⟩
                go_wp2
                go_roundw
                case rel =>
                  refine ⟨j + 1, _, by omega, by go_num, by congr 1; omega, ⟨hG.out.step (by omega) hq2⟩, ⟨al_set hA2.out hT2.out hne _ _⟩, ⟨hT2.out.set _ _⟩, ⟨hB2.out.setCell (p := ⟨gt, _, none⟩) hgb _⟩⟩
                case measure => simp [intOf]; omega
              · have hje : (j : Int) = a.n := by omega
                have HKe := Aside0.mk (show Tok P L2 T2 by have := hG.out.done hTok.out hI.out.hr HX.out hn1 hnx hxP hje; rw [← HL2.out] at this; exact this)
                have HAe := hA2
                have HTe := hT2
                have HBe := hB2
                have hFe : P - F0 + (j : Int) = P - totalF L2 := by rw [HGT.out, HF0.out]; omega
                rw [hFe]
                clear hFe
                obtain ⟨F, hF⟩ : ∃ F, F = totalF L2 := ⟨_, rfl⟩
                have hFb : 0 ≤ F ∧ F ≤ P := by have := total_max HIe.out.hr (show 0 ≤ P by omega); omega
                have hF0 : 0 ≤ F := hFb.1
                have hF1 : F ≤ P := hFb.2
                have hFt : (F != P - (P - F)) = false := by rw [show P - (P - F) = F by omega]; simp
                have hlen2 : L2.length ≤ 1000 := fitsR_len HIe.out.fits
                have hright := Aside0.mk (show runs_Right.f 2000 L2 P = some true by rw [right_is L2 P (fun x hx => by have := rf_mem HIe.out.hr x hx; unfold i64; omega) (by unfold i64; omega) hlen2 2000 (by omega), show rightF L2 P = true from HIe.out.hr])
                have HFR := Aside0.mk hF
                rw [← hF]
                clear hF hFb
                go_wp2_with fail
                refine (free_calls HAe.out HIe.out.fits).mono ?_
                rintro e wa ⟨rfl, hb⟩
                rw [← HFR.out]
                have HAa := Aside0.mk (HAe.out.below hb)
                have HTa := Aside0.mk (HTe.out.below hb)
                have HBa := Aside0.mk (below_step HBe.out hb)
                clear hb
                go_wp2_with fail
                refine (pages_calls HAa.out).mono ?_
                rintro e wb ⟨rfl, rfl⟩
                go_wp2_with fail
                refine (runs_calls HAa.out hlen2).mono ?_
                rintro e wc ⟨v9, rfl, hR9, hb9⟩
                obtain ⟨A9, c9, rfl, hc9, hC9⟩ := Kd.R_reads hR9
                have HC9 := Aside0.mk hC9
                have HCC9 := Aside0.mk hc9
                have HAc := Aside0.mk (HAa.out.below hb9)
                have HTc := Aside0.mk (HTa.out.below hb9)
                have HBc := Aside0.mk (below_step HBa.out hb9)
                clear hR9 hb9 hC9 hc9
                go_wp2_with fail
                refine (pages_calls HAc.out).mono ?_
                rintro e wd ⟨rfl, rfl⟩
                go_wp2_with fail
                refine (runs_Right.calls 2000 _ _ L2 P true _ HC9.out HCC9.out hright.out).mono ?_
                rintro e we ⟨rfl, hb10⟩
                have HAf := Aside0.mk (HAc.out.below hb10)
                have HTf := Aside0.mk (HTc.out.below hb10)
                have HBf := Aside0.mk (below_step HBc.out hb10)
                clear hb10
                go_wp2_with fail
                go_roundw
                case rel => exact ⟨k + 1, L2, _, T2, by omega, by go_num, by rw [HFR.out], HIe, HKe, HAf, HTf, HBf⟩
                case measure => simp [intOf]; omega
          · have hs5 : (takeE l a.n == 0) = false := by
              unfold takeE
              by_cases c1 : a.n < 1
              · rw [if_pos c1]; rfl
              · rw [if_neg c1, if_pos (by omega)]; rfl
            have hdid : did P l a = false := by
              unfold did
              rw [hgv, if_neg (by decide), Bool.and_eq_false_iff, decide_eq_false_iff_not, decide_eq_false_iff_not]
              omega
            obtain ⟨r5, hr5⟩ : ∃ r : Int, r = takeP l a.n := ⟨_, rfl⟩
            obtain ⟨s5, hs6⟩ : ∃ r : Int, r = takeE l a.n := ⟨_, rfl⟩
            have hpt := Aside0.mk (fun (W : World) (h : AL W w.heap.size g P l t) => by
              have := play_take h hI.out a hgv
              unfold playL playT at this
              rw [hdid, ← hr5, ← hs6] at this
              exact this)
            replace hs5 : (s5 == 0) = false := by rw [hs6]; exact hs5
            have hs7 : ¬ s5 = 0 := by simpa using hs5
            clear hr5 hs6 hdid hN
            go_wp2_with fail
            refine (hpt.out _ hA.out).mono ?_
            rintro e w5 ⟨rfl, hA5, hK5⟩
            have HA5 := Aside0.mk (show AL w5 w.heap.size g P l t from hA5)
            have HT5 := Aside0.mk (hT.out.keep hK5.k (fun e => hne e.symm))
            have HB5 := Aside0.mk (hB.out.trans hK5.b)
            clear hA5 hK5 e1 e2 e3
            go_wp2
            go_loopw [8, 13] (fun vn vj wr => vj = .int .i64 0 ∧ vn = .int .i64 (P - F0) ∧ Aside0 (AL wr w.heap.size g P l t) ∧ Aside0 (TB wr gt T) ∧ Aside0 (Below w.heap.size w wr)) (fun vn vj _ => 0)
            case atStart => exact ⟨rfl, rfl, HA5, HT5, HB5⟩
            case round =>
              obtain ⟨rfl, rfl, hA2, hT2, hB2⟩ := hrel
              have e3 := pw_cell_below hB2.out E3.out
              obtain ⟨L2, hL2⟩ : ∃ L, L = l := ⟨_, rfl⟩
              have HIe := Aside0.mk (show Inv P (k + 1) L2 t by rw [hL2]; have := hI.out; exact ⟨this.hP, this.hr, by have := this.hn; omega, by omega, by have := this.ht; omega⟩)
              obtain ⟨T2, hT2e⟩ : ∃ T2, T2 = T := ⟨_, rfl⟩
              have HKe := Aside0.mk (show Tok P L2 T2 by rw [hL2, hT2e]; exact hTok.out)
              have HAe := Aside0.mk (show AL wr w.heap.size g P L2 t by rw [hL2]; exact hA2.out)
              have HTe := Aside0.mk (show TB wr gt T2 by rw [hT2e]; exact hT2.out)
              have HBe := hB2
              have hFe : P - F0 = P - totalF L2 := by rw [hL2, HF0.out]
              clear hL2 hT2e
              by_cases hn0 : (0 : Int) < a.n
              · rw [hFe]
                clear hFe
                obtain ⟨F, hF⟩ : ∃ F, F = totalF L2 := ⟨_, rfl⟩
                have hFb : 0 ≤ F ∧ F ≤ P := by have := total_max HIe.out.hr (show 0 ≤ P by omega); omega
                have hF0 : 0 ≤ F := hFb.1
                have hF1 : F ≤ P := hFb.2
                have hFt : (F != P - (P - F)) = false := by rw [show P - (P - F) = F by omega]; simp
                have hlen2 : L2.length ≤ 1000 := fitsR_len HIe.out.fits
                have hright := Aside0.mk (show runs_Right.f 2000 L2 P = some true by rw [right_is L2 P (fun x hx => by have := rf_mem HIe.out.hr x hx; unfold i64; omega) (by unfold i64; omega) hlen2 2000 (by omega), show rightF L2 P = true from HIe.out.hr])
                have HFR := Aside0.mk hF
                rw [← hF]
                clear hF hFb
                go_wp2_with fail
                refine (free_calls HAe.out HIe.out.fits).mono ?_
                rintro e wa ⟨rfl, hb⟩
                rw [← HFR.out]
                have HAa := Aside0.mk (HAe.out.below hb)
                have HTa := Aside0.mk (HTe.out.below hb)
                have HBa := Aside0.mk (below_step HBe.out hb)
                clear hb
                go_wp2_with fail
                refine (pages_calls HAa.out).mono ?_
                rintro e wb ⟨rfl, rfl⟩
                go_wp2_with fail
                refine (runs_calls HAa.out hlen2).mono ?_
                rintro e wc ⟨v9, rfl, hR9, hb9⟩
                obtain ⟨A9, c9, rfl, hc9, hC9⟩ := Kd.R_reads hR9
                have HC9 := Aside0.mk hC9
                have HCC9 := Aside0.mk hc9
                have HAc := Aside0.mk (HAa.out.below hb9)
                have HTc := Aside0.mk (HTa.out.below hb9)
                have HBc := Aside0.mk (below_step HBa.out hb9)
                clear hR9 hb9 hC9 hc9
                go_wp2_with fail
                refine (pages_calls HAc.out).mono ?_
                rintro e wd ⟨rfl, rfl⟩
                go_wp2_with fail
                refine (runs_Right.calls 2000 _ _ L2 P true _ HC9.out HCC9.out hright.out).mono ?_
                rintro e we ⟨rfl, hb10⟩
                have HAf := Aside0.mk (HAc.out.below hb10)
                have HTf := Aside0.mk (HTc.out.below hb10)
                have HBf := Aside0.mk (below_step HBc.out hb10)
                clear hb10
                go_wp2_with fail
                go_roundw
                case rel => exact ⟨k + 1, L2, _, T2, by omega, by go_num, by rw [HFR.out], HIe, HKe, HAf, HTf, HBf⟩
                case measure => simp [intOf]; omega
              · rw [hFe]
                clear hFe
                obtain ⟨F, hF⟩ : ∃ F, F = totalF L2 := ⟨_, rfl⟩
                have hFb : 0 ≤ F ∧ F ≤ P := by have := total_max HIe.out.hr (show 0 ≤ P by omega); omega
                have hF0 : 0 ≤ F := hFb.1
                have hF1 : F ≤ P := hFb.2
                have hFt : (F != P - (P - F)) = false := by rw [show P - (P - F) = F by omega]; simp
                have hlen2 : L2.length ≤ 1000 := fitsR_len HIe.out.fits
                have hright := Aside0.mk (show runs_Right.f 2000 L2 P = some true by rw [right_is L2 P (fun x hx => by have := rf_mem HIe.out.hr x hx; unfold i64; omega) (by unfold i64; omega) hlen2 2000 (by omega), show rightF L2 P = true from HIe.out.hr])
                have HFR := Aside0.mk hF
                rw [← hF]
                clear hF hFb
                go_wp2_with fail
                refine (free_calls HAe.out HIe.out.fits).mono ?_
                rintro e wa ⟨rfl, hb⟩
                rw [← HFR.out]
                have HAa := Aside0.mk (HAe.out.below hb)
                have HTa := Aside0.mk (HTe.out.below hb)
                have HBa := Aside0.mk (below_step HBe.out hb)
                clear hb
                go_wp2_with fail
                refine (pages_calls HAa.out).mono ?_
                rintro e wb ⟨rfl, rfl⟩
                go_wp2_with fail
                refine (runs_calls HAa.out hlen2).mono ?_
                rintro e wc ⟨v9, rfl, hR9, hb9⟩
                obtain ⟨A9, c9, rfl, hc9, hC9⟩ := Kd.R_reads hR9
                have HC9 := Aside0.mk hC9
                have HCC9 := Aside0.mk hc9
                have HAc := Aside0.mk (HAa.out.below hb9)
                have HTc := Aside0.mk (HTa.out.below hb9)
                have HBc := Aside0.mk (below_step HBa.out hb9)
                clear hR9 hb9 hC9 hc9
                go_wp2_with fail
                refine (pages_calls HAc.out).mono ?_
                rintro e wd ⟨rfl, rfl⟩
                go_wp2_with fail
                refine (runs_Right.calls 2000 _ _ L2 P true _ HC9.out HCC9.out hright.out).mono ?_
                rintro e we ⟨rfl, hb10⟩
                have HAf := Aside0.mk (HAc.out.below hb10)
                have HTf := Aside0.mk (HTc.out.below hb10)
                have HBf := Aside0.mk (below_step HBc.out hb10)
                clear hb10
                go_wp2_with fail
                go_roundw
                case rel => exact ⟨k + 1, L2, _, T2, by omega, by go_num, by rw [HFR.out], HIe, HKe, HAf, HTf, HBf⟩
                case measure => simp [intOf]; omega
      · have hge : ¬ (k : Int) < (acts.length : Int) := by omega
        go_wp2_with fail
        go_ret
        exact ⟨rfl, hB.out⟩
end Go.Proofs.Ytdkedgdieoojgaa.Rn
