/- ResultTurned, walked by hand: results whose handles are turned one by one into others are the same; plain they are the same number by number, and so they stay. -/
import Derived.Test.YtabmmdpioennfaaMResWalk
set_option linter.unusedVariables false
set_option linter.unusedSimpArgs false
namespace Go.Proofs.Ytabmmdpioennfaa.Re
open Go.RowKit Go.Proofs.YtabmmdpioennfaaW.PrintWords Go.Proofs.YtabmmdpioennfaaW.PrintLast Go.Proofs.YtabmmdpioennfaaW.PrintMore
attribute [local go_sem] max2_int min2_int
/-! ### the plain side -/
def turnH (b h : Int) : Int := if h = 0 then 0 else (h + b) % 18446744073709551616
def turn (b : Int) (x : S43) : S43 := ⟨x.f0, turnH b x.f1, x.f2, x.f3⟩
theorem rd_map {l : List S43} (f : S43 → S43) {i : Nat} (hi : i < l.length) : rd_T43 (l.map f) (i : Int) = f (rd_T43 l (i : Int)) := by
  rw [rd43_get (by rw [List.length_map]; exact hi), rd43_get hi]; simp
theorem turn_same {l : List S43} {b : Int} (hu : ∀ x ∈ l, u64 x.f1) (hn : ∀ x ∈ l, x.f1 ≠ 0 → turnH b x.f1 ≠ 0) : SameP l (l.map (turn b)) := by
  have hz : ∀ i, i < l.length → hd (l.map (turn b)) i = turnH b (hd l i) := fun i hi => by unfold hd; rw [rd_map _ hi]; rfl
  have hm : ∀ i, i < l.length → ∃ x ∈ l, hd l i = x.f1 := fun i hi => ⟨l[i], List.getElem_mem hi, by unfold hd; rw [rd43_get hi]⟩
  refine ⟨by simp, fun i hi => by rw [rd_map _ hi]; rfl, fun i hi => by rw [rd_map _ hi]; rfl, fun i hi => by rw [rd_map _ hi]; rfl, fun i hi => ?_, fun i hi j hj => ?_⟩
  · rw [hz i hi]
    obtain ⟨x, hx, e⟩ := hm i hi
    rw [e]
    constructor
    · intro h; unfold turnH; rw [if_pos h]
    · intro h
      by_cases c : x.f1 = 0
      · exact c
      · exact absurd h (hn x hx c)
  · rw [hz i hi, hz j (by omega)]
    obtain ⟨x, hx, e⟩ := hm i hi
    obtain ⟨y, hy, f⟩ := hm j (by omega)
    rw [e, f]
    constructor
    · intro h; rw [h]
    · intro h
      have ux := hu x hx
      have uy := hu y hy
      unfold u64 at ux uy
      by_cases c : x.f1 = 0
      · by_cases d : y.f1 = 0
        · rw [c, d]
        · exact absurd (by rw [← h]; unfold turnH; rw [if_pos c]) (hn y hy d)
      · by_cases d : y.f1 = 0
        · exact absurd (by rw [h]; unfold turnH; rw [if_pos d]) (hn x hx c)
        · unfold turnH at h
          rw [if_neg c, if_neg d] at h
          omega
theorem plain_same (l : List S43) : SameP l (plainF l) := by
  have hz : ∀ i, i < l.length → hd (plainF l) i = NN (hd l) i := fun i hi => by unfold hd; rw [plainF_rd hi]; rfl
  exact ⟨(plainF_length l).symm, fun i hi => by rw [plainF_rd hi], fun i hi => by rw [plainF_rd hi], fun i hi => by rw [plainF_rd hi], (Pat.numbers (hd l) l.length).congr (fun i _ => rfl) (fun i hi => (hz i hi).symm)⟩
theorem same_nums {a b : List S43} (h : SameP a b) {i : Nat} (hi : i < a.length) : (rd_T43 (plainF a) (i : Int)).f1 = (rd_T43 (plainF b) (i : Int)).f1 := by
  rw [plainF_rd hi, plainF_rd (by have := h.len; omega)]
  exact pat_iff.2 h.pat i hi
theorem plain_nums (a : List S43) {i : Nat} (hi : i < a.length) : (rd_T43 (plainF a) (i : Int)).f1 = (rd_T43 (plainF (plainF a)) (i : Int)).f1 := same_nums (plain_same a) hi
theorem turnH_u64 (b h : Int) : u64 (turnH b h) := by unfold turnH u64; split <;> omega
theorem few_turn {l : List S43} {b : Int} (h : fewL l = true) : fewL (l.map (turn b)) = true := by
  obtain ⟨h1, h2, h3⟩ := fewL_iff.1 h
  refine fewL_iff.2 ⟨by rw [List.length_map]; exact h1, fun x hx => ?_, fun x hx => ?_⟩
  · obtain ⟨y, hy, rfl⟩ := List.mem_map.1 hx; exact h2 y hy
  · obtain ⟨y, hy, rfl⟩ := List.mem_map.1 hx; exact turnH_u64 b y.f1
theorem NN_le (h : Nat → Int) (i : Nat) : 0 ≤ NN h i ∧ NN h i ≤ i + 1 := by
  have hs : (seen h i).length ≤ i := by
    induction i with
    | zero => exact Nat.le_refl _
    | succ i ih => have := addSeen_len (seen h i) (h i); rw [seen]; omega
  unfold NN numOf
  split
  · omega
  · have := List.idxOf_le_length (a := h i) (l := seen h i); omega
theorem few_plain {l : List S43} (h : fewL l = true) : fewL (plainF l) = true := by
  obtain ⟨h1, h2, h3⟩ := fewL_iff.1 h
  refine fewL_iff.2 ⟨by rw [plainF_length]; exact h1, fun x hx => ?_, fun x hx => ?_⟩
  · obtain ⟨y, hy, _, e, _⟩ := plainF_mem hx; rw [e]; exact h2 y hy
  · obtain ⟨i, hi, rfl⟩ := List.mem_iff_getElem.1 hx
    rw [plainF_length] at hi
    have := plainF_rd hi
    rw [rd43_get (by rw [plainF_length]; exact hi)] at this
    rw [this]
    have := NN_le (hd l) i
    unfold u64; simp only; omega
/-- The last thing: one's number is another. -/
theorem bump_diff {l t : List S43} {j : Nat} (hj : j < l.length) (ht : t.length = l.length) (h3 : (rd_T43 t (j : Int)).f3 = (rd_T43 l (j : Int)).f3) (n : Int) (hn : n ≠ (rd_T43 l (j : Int)).f3) (x : S43) (hx : x.f3 = n) : ¬ SameP l (t.set j x) := by
  intro h
  have := h.f3 j hj
  have e : rd_T43 (t.set j x) (j : Int) = x := by
    unfold rd_T43
    rw [Int.toNat_natCast, List.getD_eq_getElem?_getD, List.getElem?_set_self (by omega)]; rfl
  rw [e, hx] at this
  exact hn this.symm
theorem few_set {t : List S43} (h : fewL t = true) {j : Nat} (x : S43) (hx : x.f2.length ≤ 1000 ∧ u64 x.f1) : fewL (t.set j x) = true := by
  obtain ⟨h1, h2, h3⟩ := fewL_iff.1 h
  refine fewL_iff.2 ⟨by rw [List.length_set]; exact h1, fun y hy => ?_, fun y hy => ?_⟩
  · rcases List.mem_or_eq_of_mem_set hy with hy | rfl
    · exact h2 y hy
    · exact hx.1
  · rcases List.mem_or_eq_of_mem_set hy with hy | rfl
    · exact h3 y hy
    · exact hx.2
/-- One's number is written into the row. -/
theorem row_bump {w wr : World} {base : Nat} {T : Addr} {n c : Nat} {t : List S43} (h : (Kd.fixed k43 w).R 43 wr base (fun _ => True) (.slice (some T) n c) t) {j : Nat} (hj : j < n) :
    ∃ g, T = ⟨g, 0, none⟩ ∧ base ≤ g ∧ wr.cell? ⟨g, j * 4 + 3, none⟩ = some (.int .i64 (rd_T43 t (j : Int)).f3) ∧ wr.frozen? ⟨g, j * 4 + 3, none⟩ = false ∧
      ∀ u : Int, (Kd.fixed k43 w).R 43 (wr.setCell ⟨g, j * 4 + 3, none⟩ (.int .i64 u)) base (fun _ => True) (.slice (some T) n c) (t.set j ⟨(rd_T43 t (j : Int)).f0, (rd_T43 t (j : Int)).f1, (rd_T43 t (j : Int)).f2, u⟩) := by
  obtain ⟨g, rfl⟩ := Kd.R_head h
  obtain ⟨cs, hcl, hM, hcc, hfr⟩ := Kd.R_elem h z43 (j : Int) (by omega) (by omega)
  have hM2 : k43.K w (rd_T43 t (j : Int)) cs := hM
  obtain ⟨A0, c0, rfl, hlc, hC⟩ := k43_open hM2
  have hMM : (j : Int).toNat * (Kd.fixed k43 w).sz = j * 4 := by rw [Int.toNat_natCast]; rfl
  rw [hMM] at hcc hfr
  refine ⟨g, rfl, ?_, hcc 3 _ rfl, hfr 3, fun u => ?_⟩
  · obtain ⟨g', cap, he, hb, _⟩ := Kd.R_form h (by have := (Kd.R_reads' h).1; omega)
    injection he with he _ _
    injection he with he
    injection he with he
    omega
  · have hs := Kd.R_seg h (j : Int) (by omega) (by omega) (c := [.int .i64 (rd_T43 t (j : Int)).f0, .int .u64 (rd_T43 t (j : Int)).f1, .slice A0 (rd_T43 t (j : Int)).f2.length c0, .int .i64 (rd_T43 t (j : Int)).f3]) (seg := [.int .i64 u]) (j := 3) (x' := ⟨(rd_T43 t (j : Int)).f0, (rd_T43 t (j : Int)).f1, (rd_T43 t (j : Int)).f2, u⟩) (okp := fun _ => False) rfl (by rw [hMM]; exact hcc) (show 3 + 1 ≤ 4 by decide) (k43_mk w (⟨(rd_T43 t (j : Int)).f0, (rd_T43 t (j : Int)).f1, (rd_T43 t (j : Int)).f2, u⟩ : S43) hlc hC) (fun _ h => h.elim)
    rw [hMM, Int.toNat_natCast] at hs
    exact hs.1
theorem c_plain_n {A : Option Addr} {c n : Nat} {l : List S43} {w : World} (hn : n = l.length) (hA : Kd.C k43 w A n l) (hc : n ≤ c) (ha : fewL l = true) :
    Calls Try.prog 23 #[.slice A n c] w fun e w' => ∃ B d, e = .returned (.slice B (plainF l).length d) ∧ (plainF l).length ≤ d ∧ Kd.C k43 w' B (plainF l).length (plainF l) ∧ Below w.heap.size w w' := by
  subst hn; exact c_plain hA hc ha
theorem c_same_nn {A B : Option Addr} {c d n : Nat} {a b : List S43} {w : World} (hna : n = a.length) (hnb : n = b.length) (hA : Kd.C k43 w A n a) (hc : n ≤ c) (hB : Kd.C k43 w B n b) (hd : n ≤ d) (ha : fewL a = true) (hb : fewL b = true) (v : Bool) (hv : v = true ↔ SameP a b) :
    Calls Try.prog 26 #[.slice A n c, .slice B n d] w fun e w' => e = .returned (.bool v) ∧ Below w.heap.size w w' := by
  subst hna
  have h2 : Kd.C k43 w B b.length b := by rw [hnb] at hB; exact hB
  have := c_same (c := c) (d := d) hA hc h2 (by omega) ha hb v hv
  rwa [← hnb] at this
set_option maxHeartbeats 16000000 in
set_option maxRecDepth 100000 in
theorem turned_walk (A : Option Addr) (ca : Nat) (l : List S43) (b kk : Int) (w : World) (hA : Kd.C k43 w A l.length l) (hca : l.length ≤ ca) (wa : wfL l) (hb0 : u64 b) (hkk : 0 ≤ kk ∧ kk ≤ 255) :
    Calls Try.prog 10 #[.slice A l.length ca, .int .u64 b, .int .u8 kk] w fun e w' => e = .returned (.bool true) ∧ Below w.heap.size w w' := by
  have HA := Aside0.mk hA
  have HCA := Aside0.mk hca
  have WA := Aside0.mk wa
  have HB0 := Aside0.mk hb0
  clear hA hca wa hb0
  obtain ⟨fa, hfa⟩ : ∃ v, v = fewR l := ⟨_, rfl⟩
  have FA := Aside0.mk hfa
  clear hfa
  go_enter Try.func10, Try.ntmps10
  go_wp2_with fail
  refine (c_awake _).mono ?_
  rintro e w1 ⟨rfl, hb⟩
  have HB1 := Aside0.mk hb
  clear hb
  go_wp2_with fail
  refine (c_few (Kd.C_below HA.out HB1.out) HCA.out WA.out).mono ?_
  rw [← FA.out]
  rintro e w2 ⟨rfl, hb⟩
  have HB2 := Aside0.mk (below_step HB1.out hb)
  clear hb
  cases fa with
  | false =>
    go_wp2_with fail
    go_ret
    exact ⟨rfl, HB2.out⟩
  | true =>
    have LA := Aside0.mk (fewR_L WA.out FA.out.symm)
    have hl60 : l.length ≤ 60 := fewR_len FA.out.symm
    go_wp2
    go_loopw [9, 10] (fun tv iv wr => ∃ (k : Nat), k ≤ l.length ∧ iv = .int .i64 k ∧ Aside0 (∀ x ∈ l.take k, x.f1 ≠ 0 → turnH b x.f1 ≠ 0) ∧ Aside0 ((Kd.fixed k43 w).R 43 wr w.heap.size (fun _ => True) tv ((l.take k).map (turn b))) ∧ Aside0 (Below w.heap.size w wr)) (fun tv iv _ => l.length - (intOf iv).toNat)
    case atStart => exact ⟨0, Nat.zero_le _, rfl, ⟨fun x hx => by simp at hx⟩, ⟨Kd.R_nil _ _ _ _ _⟩, HB2⟩
    case round =>
      obtain ⟨k, hk, rfl, hN, hR, hB⟩ := hrel
      clear HB2
      obtain ⟨tl, htl⟩ : ∃ tl, tl = (l.take k).map (turn b) := ⟨_, rfl⟩
      rw [← htl] at hR
      have HTL := Aside0.mk htl
      clear htl
      by_cases hlt : k < l.length
      · obtain ⟨ad, A0, c0, hAd, e0, e1, e2, e3, hc0, hC0⟩ := at_T43 HA.out (k : Int) (by omega) (by omega)
        subst hAd
        obtain ⟨x, hx⟩ : ∃ x, x = rd_T43 l (k : Int) := ⟨_, rfl⟩
        rw [← hx] at e0 e1 e2 e3 hc0 hC0
        simp only [Int.toNat_natCast] at e0 e1 e2 e3
        replace e0 := pw_cell_below hB.out e0
        replace e1 := pw_cell_below hB.out e1
        replace e2 := pw_cell_below hB.out e2
        replace e3 := pw_cell_below hB.out e3
        have hxl : x = l[k] := by rw [hx, rd43_get hlt]
        have hxu : u64 x.f1 := by rw [hxl]; exact (fewL_iff.1 LA.out).2.2 _ (List.getElem_mem hlt)
        have hmp : ∀ g : Int, turnH b x.f1 = g → tl ++ [(⟨x.f0, g, x.f2, x.f3⟩ : S43)] = (l.take (k + 1)).map (turn b) := fun g h => by
          rw [List.take_succ_eq_append_getElem hlt, List.map_append, ← hxl, HTL.out]
          have : turn b x = ⟨x.f0, g, x.f2, x.f3⟩ := by unfold turn; rw [h]
          simp [this]
        have hnn : (x.f1 ≠ 0 → turnH b x.f1 ≠ 0) → ∀ y ∈ l.take (k + 1), y.f1 ≠ 0 → turnH b y.f1 ≠ 0 := fun h y hy => by
          rw [List.take_succ_eq_append_getElem hlt, ← hxl] at hy
          rcases List.mem_append.1 hy with hy | hy
          · exact hN.out y hy
          · obtain rfl := List.mem_singleton.1 hy; exact h
        have HMP := Aside0.mk hmp
        have HNN := Aside0.mk hnn
        have HC0 := Aside0.mk hC0
        have HCC0 := Aside0.mk hc0
        have hlen : tl.length ≤ 60 := by rw [HTL.out, List.length_map, List.length_take]; omega
        obtain ⟨T9, c9, rfl⟩ := Kd.R_slice hR.out
        have HLEN := Aside0.mk hlen
        have HXU := Aside0.mk hxu
        have hin : 0 ≤ (k : Int) ∧ (k : Int) < (l.length : Int) := by omega
        have hin2 : (k : Int) < (l.length : Int) := by omega
        clear hx hmp hnn hC0 hc0 hlen hxu hxl
        by_cases c1 : x.f1 = 0
        · have t1 : (x.f1 != 0) = false := by simp [c1]
          have H1 := Aside0.mk (HMP.out x.f1 (by unfold turnH; rw [if_pos c1, c1]))
          have H2 := Aside0.mk (HNN.out (fun h => absurd c1 h))
          clear c1
          go_wp2_with (at_builtin; refine Kd.R_append (Kd.fixed k43 w) (w0 := w) w.heap.size rfl _ _ 35 43 _ 48 rfl Try.underlying35 info43 rfl (show 0 < 4 by decide) (by decide) (.slice T9 tl.length c9) tl (⟨x.f0, x.f1, x.f2, x.f3⟩ : S43) [.int .i64 x.f0, .int .u64 x.f1, .slice A0 x.f2.length c0, .int .i64 x.f3] (fun _ => True) (fun _ => False) rfl (by first | rfl | (go_simp; done) | (simp; done)) (k43_mk w (⟨x.f0, x.f1, x.f2, x.f3⟩ : S43) HCC0.out HC0.out) (fun _ h => h.elim) (fun _ _ => trivial) (Kd.R_alloc hR.out _) (below_alloc hB.out _) (by have := hB.out.size; simp; omega) (by have := HLEN.out; omega) ?_; intro v1 w1 hR1 hB1 hg1 hat1; have HR1 := Aside0.mk hR1; have HB1 := Aside0.mk hB1; clear hR1 hB1 hg1 hat1)
          go_roundw
          case rel => exact ⟨k + 1, by omega, by go_num, H2, ⟨by rw [← H1.out]; exact HR1.out⟩, HB1⟩
          case measure => simp [intOf]; omega
        · have t1 : (x.f1 != 0) = true := by simp [c1]
          obtain ⟨g, hg⟩ : ∃ g, g = (x.f1 + b) % 18446744073709551616 := ⟨_, rfl⟩
          have H1 := Aside0.mk (HMP.out g (by unfold turnH; rw [if_neg c1, hg]))
          have hw1 : IntKind.u64.wrap (x.f1 + b) = g := by rw [IntKind.wrap_u64, hg]
          have HG := Aside0.mk hg
          by_cases c2 : g = 0
          · have t2 : (g == 0) = true := by simp [c2]
            clear c1 c2 hg
            go_wp2
            go_ret
            exact ⟨rfl, below_alloc hB.out _⟩
          · have t2 : (g == 0) = false := by simp [c2]
            have H2 := Aside0.mk (HNN.out (fun _ => by unfold turnH; rw [if_neg c1, ← hg]; exact c2))
            clear c1 c2 hg
            go_wp2_with (at_builtin; refine Kd.R_append (Kd.fixed k43 w) (w0 := w) w.heap.size rfl _ _ 35 43 _ 48 rfl Try.underlying35 info43 rfl (show 0 < 4 by decide) (by decide) (.slice T9 tl.length c9) tl (⟨x.f0, g, x.f2, x.f3⟩ : S43) [.int .i64 x.f0, .int .u64 g, .slice A0 x.f2.length c0, .int .i64 x.f3] (fun _ => True) (fun _ => False) rfl (by first | rfl | (go_simp; done) | (simp; done)) (k43_mk w (⟨x.f0, g, x.f2, x.f3⟩ : S43) HCC0.out HC0.out) (fun _ h => h.elim) (fun _ _ => trivial) (Kd.R_alloc hR.out _) (below_alloc hB.out _) (by have := hB.out.size; simp; omega) (by have := HLEN.out; omega) ?_; intro v1 w1 hR1 hB1 hg1 hat1; have HR1 := Aside0.mk hR1; have HB1 := Aside0.mk hB1; clear hR1 hB1 hg1 hat1)
            go_roundw
            case rel => exact ⟨k + 1, by omega, by go_num, H2, ⟨by rw [← H1.out]; exact HR1.out⟩, HB1⟩
            case measure => simp [intOf]; omega
      · have hge : ¬ (k : Int) < (l.length : Int) := by omega
        have hke : l.take k = l := List.take_of_length_le (by omega)
        have htt : tl = l.map (turn b) := by rw [HTL.out, hke]
        have hall := hN.out
        rw [hke] at hall
        have HTT := Aside0.mk htt
        have htlen : tl.length = l.length := by rw [htt, List.length_map]
        have HTLEN := Aside0.mk htlen
        have HSAME := Aside0.mk (show SameP l tl by rw [htt]; exact turn_same (fewL_iff.1 LA.out).2.2 hall)
        have HFT := Aside0.mk (show fewL tl = true by rw [htt]; exact few_turn LA.out)
        obtain ⟨T9, c9, rfl⟩ := Kd.R_slice hR.out
        obtain ⟨T, tc, hTe, htc, hT⟩ := fixed_reads hR.out hB.out
        injection hTe with hTe _ hTc
        subst hTe hTc
        rw [htlen] at hR htc hT ⊢
        have HT := Aside0.mk hT
        have HTC := Aside0.mk htc
        have HR0 := hR
        have HB3 := hB
        obtain ⟨n, hn⟩ : ∃ n, n = l.length := ⟨_, rfl⟩
        have HNL := Aside0.mk hn
        have hn60 : n ≤ 60 := by omega
        have hgn : ¬ (k : Int) < (n : Int) := by omega
        obtain ⟨P1, hP1⟩ : ∃ p, p = plainF l := ⟨_, rfl⟩
        obtain ⟨Q1, hQ1⟩ : ∃ p, p = plainF tl := ⟨_, rfl⟩
        obtain ⟨Z1, hZ1⟩ : ∃ p, p = plainF P1 := ⟨_, rfl⟩
        have HP1 := Aside0.mk hP1
        have HQ1 := Aside0.mk hQ1
        have HZ1 := Aside0.mk hZ1
        have hpl : P1.length = n := by rw [hP1, plainF_length, hn]
        have hql : Q1.length = n := by rw [hQ1, plainF_length, htlen, hn]
        have hzl : Z1.length = n := by rw [hZ1, plainF_length, hpl]
        have HPL := Aside0.mk hpl
        have HQL := Aside0.mk hql
        have HZL := Aside0.mk hzl
        have HFP := Aside0.mk (show fewL P1 = true by rw [hP1]; exact few_plain LA.out)
        have HNUM := Aside0.mk (show ∀ i : Nat, i < n → (rd_T43 P1 (i : Int)).f1 = (rd_T43 Q1 (i : Int)).f1 ∧ (rd_T43 Z1 (i : Int)).f1 = (rd_T43 P1 (i : Int)).f1 from fun i hi => by
          rw [hZ1, hP1, hQ1]
          exact ⟨same_nums HSAME.out (by omega), (plain_nums l (by omega)).symm⟩)
        have HSP := Aside0.mk (show SameP l P1 by rw [hP1]; exact plain_same l)
        rw [← hn]
        rw [← hn] at HT HTC HR0
        clear hn hP1 hQ1 hZ1 hpl hql hzl hke htt hall htlen hT htc hR hB hN
        have HA2 := Aside0.mk (show Kd.C k43 w A n l by rw [HNL.out]; exact HA.out)
        have hcan : n ≤ ca := by have := HCA.out; have := HNL.out; omega
        clear hge hl60 hk
        go_wp2_with fail
        refine (c_plain_n HNL.out (Kd.C_below HA2.out HB3.out) hcan LA.out).mono ?_
        rw [← HP1.out]
        rintro e w4 ⟨Pa, pc, rfl, hpc, hPC, hb⟩
        rw [HPL.out] at hpc hPC ⊢
        have HPC := Aside0.mk hPC
        have HPCC := Aside0.mk hpc
        have HB4 := Aside0.mk (below_step HB3.out hb)
        have HR4 := Aside0.mk (Kd.R_below HR0.out hb)
        have HT4 := Aside0.mk (Kd.C_below HT.out hb)
        clear hPC hpc hb
        go_wp2_with fail
        refine (c_plain_n (show n = tl.length by have := HTLEN.out; have := HNL.out; omega) HT4.out HTC.out HFT.out).mono ?_
        rw [← HQ1.out]
        rintro e w5 ⟨Qa, qc, rfl, hqc, hQC, hb⟩
        rw [HQL.out] at hqc hQC ⊢
        have HQC := Aside0.mk hQC
        have HQCC := Aside0.mk hqc
        have HB5 := Aside0.mk (below_step HB4.out hb)
        have HR5 := Aside0.mk (Kd.R_below HR4.out hb)
        have HT5 := Aside0.mk (Kd.C_below HT4.out hb)
        have HPC5 := Aside0.mk (Kd.C_below HPC.out hb)
        clear hQC hqc hb
        go_wp2_with fail
        refine (c_plain_n HPL.out.symm HPC5.out HPCC.out HFP.out).mono ?_
        rw [← HZ1.out]
        rintro e w6 ⟨Za, zc, rfl, hzc, hZC, hb⟩
        rw [HZL.out] at hzc hZC ⊢
        have HZC := Aside0.mk hZC
        have HB6 := Aside0.mk (below_step HB5.out hb)
        have HR6 := Aside0.mk (Kd.R_below HR5.out hb)
        have HT6 := Aside0.mk (Kd.C_below HT5.out hb)
        have HPC6 := Aside0.mk (Kd.C_below HPC5.out hb)
        have HQC6 := Aside0.mk (Kd.C_below HQC.out hb)
        clear hZC hzc hb
        go_wp2_with fail
        refine (c_same_nn HNL.out (show n = tl.length by have := HTLEN.out; have := HNL.out; omega) (Kd.C_below HA2.out HB6.out) hcan HT6.out HTC.out LA.out HFT.out true ⟨fun _ => HSAME.out, fun _ => rfl⟩).mono ?_
        rintro e w7 ⟨rfl, hb⟩
        have HB7 := Aside0.mk (below_step HB6.out hb)
        have HR7 := Aside0.mk (Kd.R_below HR6.out hb)
        have HPC7 := Aside0.mk (Kd.C_below HPC6.out hb)
        have HQC7 := Aside0.mk (Kd.C_below HQC6.out hb)
        have HZC7 := Aside0.mk (Kd.C_below HZC.out hb)
        clear hb
        go_wp2_with fail
        refine (c_same_nn HNL.out HPL.out.symm (Kd.C_below HA2.out HB7.out) hcan HPC7.out HPCC.out LA.out HFP.out true ⟨fun _ => HSP.out, fun _ => rfl⟩).mono ?_
        rintro e w8 ⟨rfl, hb⟩
        have HB8 := Aside0.mk (below_step HB7.out hb)
        have HR8 := Aside0.mk (Kd.R_below HR7.out hb)
        have HPC8 := Aside0.mk (Kd.C_below HPC7.out hb)
        have HQC8 := Aside0.mk (Kd.C_below HQC7.out hb)
        have HZC8 := Aside0.mk (Kd.C_below HZC7.out hb)
        clear hb
        go_wp2
        go_loopw [15] (fun iv wr => ∃ (j : Nat), j ≤ n ∧ iv = .int .i64 j ∧ Aside0 (Below w8.heap.size w8 wr)) (fun iv _ => n - (intOf iv).toNat)
        case atStart => exact ⟨0, Nat.zero_le _, rfl, ⟨Below.refl _ _⟩⟩
        case round =>
          obtain ⟨j, hj, rfl, hB⟩ := hrel
          by_cases hjl : j < n
          · obtain ⟨p1, P2, p3, hPa, _, g1, _, _, _, _⟩ := at_T43 (Kd.C_below HPC8.out hB.out) (j : Int) (by omega) (by omega)
            obtain ⟨q1, Q2, q3, hQa, _, g2, _, _, _, _⟩ := at_T43 (Kd.C_below HQC8.out hB.out) (j : Int) (by omega) (by omega)
            obtain ⟨z1, Z2, z3, hZa, _, g3, _, _, _, _⟩ := at_T43 (Kd.C_below HZC8.out hB.out) (j : Int) (by omega) (by omega)
            subst hPa hQa hZa
            obtain ⟨hn1, hn2⟩ := HNUM.out j hjl
            rw [hn2] at g3
            rw [← hn1] at g2
            clear hn1 hn2
            generalize (rd_T43 P1 (j : Int)).f1 = v at g1 g2 g3
            simp only [Int.toNat_natCast] at g1 g2 g3
            have hin : 0 ≤ (j : Int) ∧ (j : Int) < (n : Int) := by omega
            have hin2 : (j : Int) < (n : Int) := by omega
            have a1 : ∀ W, Below wr.heap.size wr W → W.cell? ⟨(p1.add (j * 4)).block, (p1.add (j * 4)).off + 1, none⟩ = some (.int .u64 v) := fun W h => pw_cell_below h g1
            have a2 : ∀ W, Below wr.heap.size wr W → W.cell? ⟨(q1.add (j * 4)).block, (q1.add (j * 4)).off + 1, none⟩ = some (.int .u64 v) := fun W h => pw_cell_below h g2
            have a3 : ∀ W, Below wr.heap.size wr W → W.cell? ⟨(z1.add (j * 4)).block, (z1.add (j * 4)).off + 1, none⟩ = some (.int .u64 v) := fun W h => pw_cell_below h g3
            clear g1 g2 g3
            go_wp2
            go_region_held3 (fun w' => Below wr.heap.size wr w')
              (first | assumption | exact below_drew (Below.refl _ _))
              (fail)
            rename_i hHeld
            have HB9 := Aside0.mk (below_step hB.out hHeld)
            clear hHeld a1 a2 a3
            go_wp2
            go_roundw
            case rel => exact ⟨j + 1, by omega, by go_num, HB9⟩
            case measure => simp [intOf]; omega
          · have hgj : ¬ (j : Int) < (n : Int) := by omega
            have HR9 := Aside0.mk (Kd.R_below HR8.out hB.out)
            have HB9 := Aside0.mk (below_step HB8.out hB.out)
            by_cases h0 : n = 0
            · have hz : ((n : Int) == 0) = true := by simp [h0]
              go_wp2
              go_ret
              exact ⟨rfl, HB9.out⟩
            · have hz : ((n : Int) == 0) = false := by simp [h0]
              obtain ⟨q, hq⟩ : ∃ q : Nat, (q : Int) = kk % (n : Int) := ⟨(kk % (n : Int)).toNat, by have := Int.emod_nonneg kk (show (n : Int) ≠ 0 by omega); omega⟩
              have hqn : q < n := by have := Int.emod_lt_of_pos kk (show (0 : Int) < (n : Int) by omega); omega
              have hq1 : kk.tmod (n : Int) = (q : Int) := by rw [hq, Int.tmod_eq_emod_of_nonneg hkk.1]
              have hn0 : (0 : Int) < (n : Int) := by omega
              have hk0 : 0 ≤ kk := hkk.1
              have hk255 : kk ≤ 255 := hkk.2
              have hqa : 0 ≤ (q : Int) := by omega
              have hqb : (q : Int) < (n : Int) := by omega
              have HQ2 := Aside0.mk hq
              cases T9 with
              | none => exact absurd (HT.out.2.2 (by omega)) (by rintro ⟨_, he, _⟩; cases he)
              | some T9 =>
                obtain ⟨tg, rfl, htg, i1, i2, i3⟩ := row_bump HR9.out hqn
                obtain ⟨y, hy⟩ : ∃ y, y = rd_T43 tl (q : Int) := ⟨_, rfl⟩
                rw [← hy] at i1 i3
                have hy3 : y.f3 = (rd_T43 l (q : Int)).f3 := by rw [hy]; exact (HSAME.out.f3 q (by have := HNL.out; omega)).symm
                have hym : y ∈ tl := by rw [hy, rd43_get (by have := HTLEN.out; have := HNL.out; omega)]; exact List.getElem_mem _
                have hub : wrap64 (y.f3 + 1) ≠ (rd_T43 l (q : Int)).f3 := by rw [← hy3]; unfold wrap64; omega
                have HI3 := Aside0.mk (i3 (wrap64 (y.f3 + 1)))
                have HY := Aside0.mk hy
                have HY3 := Aside0.mk hy3
                have HYM := Aside0.mk hym
                have HUB := Aside0.mk hub
                clear hq i3 hy hy3 hym hub HR9
                go_wp2_with fail
                have HB10 := Aside0.mk (HB9.out.setCell (p := ⟨tg, q * 4 + 3, none⟩) htg (.int .i64 (wrap64 (y.f3 + 1))))
                obtain ⟨x', hx'⟩ : ∃ x' : S43, x' = ⟨y.f0, y.f1, y.f2, wrap64 (y.f3 + 1)⟩ := ⟨_, rfl⟩
                obtain ⟨t', ht'⟩ : ∃ t', t' = tl.set q x' := ⟨_, rfl⟩
                have HI4 := Aside0.mk (show (Kd.fixed k43 w).R 43 (wr.setCell ⟨tg, q * 4 + 3, none⟩ (.int .i64 (wrap64 (y.f3 + 1)))) w.heap.size (fun _ => True) (.slice (some ⟨tg, 0, none⟩) n c9) t' by rw [ht', hx']; exact HI3.out)
                obtain ⟨T2, tc2, hTe2, htc2, hT2⟩ := fixed_reads HI4.out HB10.out
                injection hTe2 with hTe2 hTn2 hTc2
                subst hTe2 hTc2
                have ht'l : n = t'.length := by rw [ht', List.length_set]; have := HTLEN.out; have := HNL.out; omega
                rw [← hTn2] at hT2 htc2
                have hft' : fewL t' = true := by rw [ht']; exact few_set HFT.out x' (by rw [hx']; have := few_mem HFT.out HYM.out; exact this)
                have hns : ¬ SameP l t' := by
                  rw [ht']
                  refine bump_diff (by have := HNL.out; omega) HTLEN.out (by rw [← HY.out]; exact HY3.out) (wrap64 (y.f3 + 1)) HUB.out x' (by rw [hx'])
                refine (c_same_nn HNL.out ht'l (Kd.C_below HA2.out HB10.out) hcan hT2 htc2 LA.out hft' false ⟨fun h => (by cases h), fun h => absurd h hns⟩).mono ?_
                rintro e w11 ⟨rfl, hb⟩
                have HB11 := Aside0.mk (below_step HB10.out hb)
                clear hb hns hft' ht'l hT2 htc2 ht' hx' hTn2
                go_wp2_with fail
                go_ret
                exact ⟨rfl, HB11.out⟩
end Go.Proofs.Ytabmmdpioennfaa.Re
