/- PagerunAll, walked by hand: when all that was taken is given back, there is one run of all pages again. -/
import Derived.Test.YtdkedgdieoojgaaMPagesX
import Derived.Test.YtdkedgdieoojgaaMActs
set_option linter.unusedVariables false
set_option linter.unusedSimpArgs false
namespace Go.Proofs.Ytdkedgdieoojgaa.Rn
open Go.ChangeShapes Go.RowKit Go.Proofs.YtdkedgdieoojgaaW.PrintWords Go.Proofs.YtdkedgdieoojgaaW.PrintLast Go.Proofs.YtdkedgdieoojgaaW.PrintMore
attribute [local go_sem high] eqA51
def ByC (w : World) (A : Option Addr) (xs : List Int) : Prop :=
  0 < xs.length → ∃ ad, A = some ad ∧ ∀ i x, xs[i]? = some x → w.cell? (ad.add i) = some (.int .u8 x)
def wfB (xs : List Int) : Prop := ∀ x ∈ xs, 0 ≤ x ∧ x ≤ 255
theorem open_bytes {H : Type} {enc : TypeId × Value → H} {W : World} {base : Nat} {spare : Nat → Bool} {held : Bool} {a : Option Addr} {len cap : Nat} {d : DataW H} {p : List MemPlace}
    (h : DataW.Trod enc Try.prog W base spare held 49 (.slice a len cap) d p) : ∃ l : List Int, len = l.length ∧ l.length ≤ cap ∧ ByC W a l ∧ wfB l := by
  obtain ⟨fuel, hf⟩ := h
  rcases Deep.open_slice1 Try.underlying49 (by kernel_rfl) hf with ⟨hcs, _⟩ | ⟨x, n, c, m, g, V, D, Pl, hcs, _, hl, hm, hmm, _, hx⟩
  · simp [Value.cells] at hcs
    obtain ⟨rfl, rfl, rfl⟩ := hcs
    exact ⟨[], rfl, Nat.le_refl _, fun h => absurd h (by simp), fun x hx => by simp at hx⟩
  · simp [Value.cells] at hcs
    obtain ⟨rfl, rfl, rfl⟩ := hcs
    have hlm : len ≤ m := by rw [hmm]; split <;> omega
    have each : ∀ i, i < len → ∃ q : Int, W.cell? (x.add i) = some (.int .u8 q) ∧ 0 ≤ q ∧ q ≤ 255 := by
      intro i hi
      obtain ⟨h1, h2⟩ := hx i (by omega)
      obtain ⟨z1, hz1, _, w1⟩ := DataW.trod_int Try.underlying5 h2
      have e : V i = .int .u8 z1 := by simpa using hz1
      rw [e] at h1
      exact ⟨z1, h1, bounds_u8 w1⟩
    obtain ⟨q, hq⟩ := Deep.choose_lt each
    refine ⟨(List.range len).map q, by simp, by simp; exact hl, fun _ => ⟨x, rfl, fun j y hj => ?_⟩, fun y hy => ?_⟩
    · have hjl : j < len := by have := (List.getElem?_eq_some_iff.1 hj).1; simpa using this
      obtain rfl : q j = y := by simpa [hjl] using hj
      exact (hq j hjl).1
    · obtain ⟨j, hj, rfl⟩ := List.mem_map.1 hy
      exact (hq j (by simpa using hj)).2
/-! ### what is out and what is free make all pages -/
def inR (q : Int) (x : S51) : Bool := decide (x.f0 ≤ q) && decide (q < x.f0 + x.f1)
def cnt (got : List S51) (q : Int) : Nat := got.countP (inR q)
theorem inR_iff {q : Int} {x : S51} : inR q x = true ↔ x.f0 ≤ q ∧ q < x.f0 + x.f1 := by simp [inR]
theorem cnt_append (a b : List S51) (q : Int) : cnt (a ++ b) q = cnt a q + cnt b q := List.countP_append
theorem cnt_one (x : S51) (q : Int) : cnt [x] q = if x.f0 ≤ q ∧ q < x.f0 + x.f1 then 1 else 0 := by
  unfold cnt; rw [List.countP_singleton]
  by_cases c : inR q x = true
  · rw [if_pos c, if_pos (inR_iff.1 c)]
  · rw [if_neg c, if_neg (fun h => c (inR_iff.2 h))]
theorem cnt_remove {got : List S51} {k : Nat} {y : S51} (h : got[k]? = some y) (q : Int) : cnt got q = cnt (got.take k ++ got.drop (k + 1)) q + cnt [y] q := by
  obtain ⟨hk, rfl⟩ := List.getElem?_eq_some_iff.1 h
  have e : got = got.take k ++ ([got[k]] ++ got.drop (k + 1)) := by rw [List.singleton_append, ← List.drop_eq_getElem_cons hk, List.take_append_drop]
  have e2 : cnt got q = cnt (got.take k ++ ([got[k]] ++ got.drop (k + 1))) q := by rw [← e]
  rw [e2, cnt_append, cnt_append, cnt_append]; omega
def Out (P : Int) (l got : List S51) : Prop := (∀ x ∈ got, 1 ≤ x.f1) ∧ ∀ q, (Cov l q ∧ 0 ≤ q ∧ q < P ∧ cnt got q = 0) ∨ (¬ Cov l q ∧ 0 ≤ q ∧ q < P ∧ cnt got q = 1) ∨ (¬ Cov l q ∧ ¬ (0 ≤ q ∧ q < P) ∧ cnt got q = 0)
theorem Out.start {P : Int} : Out P [⟨0, P⟩] [] := by
  refine ⟨fun x hx => by simp at hx, fun q => ?_⟩
  have hc : Cov [⟨0, P⟩] q ↔ 0 ≤ q ∧ q < P := by
    rw [cov_cons]; simp [cov_nil]
  rw [hc]
  have : cnt [] q = 0 := rfl
  omega
theorem Out.take {P : Int} {l got : List S51} {i : Nat} {x : S51} {n : Int} (h : Out P l got) (hr : rightF l P = true) (hx : l[i]? = some x) (hn : 1 ≤ n) (hnx : n ≤ x.f1) : Out P (takeAt l i n) (got ++ [⟨x.f0, n⟩]) := by
  obtain ⟨_, t2, _⟩ := take_spec_from l P (-1) i x n hr hx hn hnx
  refine ⟨fun y hy => ?_, fun q => ?_⟩
  · rcases List.mem_append.1 hy with hy | hy
    · exact h.1 y hy
    · simp at hy; subst hy; exact hn
  · rw [t2 q, cnt_append, cnt_one]
    have hxq : x.f0 ≤ q ∧ q < x.f0 + n → Cov l q := fun hq => ⟨x, List.mem_of_getElem? hx, by omega, by omega⟩
    by_cases d : x.f0 ≤ q ∧ q < x.f0 + n
    · rw [if_pos (show (⟨x.f0, n⟩ : S51).f0 ≤ q ∧ q < (⟨x.f0, n⟩ : S51).f0 + (⟨x.f0, n⟩ : S51).f1 from d)]
      rcases h.2 q with ⟨a, b, c, e⟩ | ⟨a, b⟩ | ⟨a, b⟩
      · right; left; exact ⟨fun z => z.2 d, b, c, by omega⟩
      · exact absurd (hxq d) a
      · exact absurd (hxq d) a
    · rw [if_neg (show ¬ ((⟨x.f0, n⟩ : S51).f0 ≤ q ∧ q < (⟨x.f0, n⟩ : S51).f0 + (⟨x.f0, n⟩ : S51).f1) from d)]
      rcases h.2 q with ⟨a, b, c, e⟩ | ⟨a, b, c, e⟩ | ⟨a, b, e⟩
      · left; exact ⟨⟨a, d⟩, b, c, e⟩
      · right; left; exact ⟨fun z => a z.1, b, c, e⟩
      · right; right; exact ⟨fun z => a z.1, b, e⟩
theorem Out.ok {P : Int} {l got : List S51} {k : Nat} {y : S51} (h : Out P l got) (hr : rightF l P = true) (hy : got[k]? = some y) : giveOk l P y.f0 y.f1 = true := by
  have hy1 := h.1 y (List.mem_of_getElem? hy)
  have key : ∀ q, y.f0 ≤ q → q < y.f0 + y.f1 → ¬ Cov l q ∧ 0 ≤ q ∧ q < P := by
    intro q h1 h2
    have hc := cnt_remove hy q
    rw [cnt_one, if_pos ⟨h1, h2⟩] at hc
    rcases h.2 q with ⟨a, b, c, e⟩ | ⟨a, b, c, e⟩ | ⟨a, b, e⟩
    · omega
    · exact ⟨a, b, c⟩
    · omega
  refine (giveOk_iff hr).2 ⟨?_, hy1, ?_, fun q h1 h2 => (key q h1 h2).1⟩
  · exact (key y.f0 (Int.le_refl _) (by omega)).2.1
  · have := (key (y.f0 + y.f1 - 1) (by omega) (by omega)).2.2; omega
theorem Out.give {P : Int} {l got : List S51} {k : Nat} {y : S51} (h : Out P l got) (hr : rightF l P = true) (hy : got[k]? = some y) : Out P (giveF l y.f0 y.f1) (got.take k ++ got.drop (k + 1)) := by
  have hok := h.ok hr hy
  obtain ⟨_, g2, _⟩ := give_spec hr hok
  refine ⟨fun x hx => ?_, fun q => ?_⟩
  · rcases List.mem_append.1 hx with hx | hx
    · exact h.1 x (List.mem_of_mem_take hx)
    · exact h.1 x (List.mem_of_mem_drop hx)
  · have hc := cnt_remove hy q
    rw [cnt_one] at hc
    rw [g2 q]
    by_cases d : y.f0 ≤ q ∧ q < y.f0 + y.f1
    · rw [if_pos d] at hc
      rcases h.2 q with ⟨a, b, c, e⟩ | ⟨a, b, c, e⟩ | ⟨a, b, e⟩
      · omega
      · left; exact ⟨.inr d, b, c, by omega⟩
      · omega
    · rw [if_neg d] at hc
      rcases h.2 q with ⟨a, b, c, e⟩ | ⟨a, b, c, e⟩ | ⟨a, b, e⟩
      · left; exact ⟨.inl a, b, c, by omega⟩
      · right; left; exact ⟨fun z => z.elim a d, b, c, by omega⟩
      · right; right; exact ⟨fun z => z.elim a d, b, by omega⟩
theorem Out.all {P : Int} {l : List S51} (hP : 1 ≤ P) (h : Out P l []) (hr : rightF l P = true) : l = [⟨0, P⟩] := by
  have h1 : rightF [⟨0, P⟩] P = true := rf_cons.2 ⟨⟨by show (-1 : Int) < 0; decide, by show (0 : Int) ≤ 0; decide, hP, by show 0 + P ≤ P; omega⟩, rfl⟩
  refine canon hr h1 (fun q => ?_)
  have hc : Cov [⟨0, P⟩] q ↔ 0 ≤ q ∧ q < P := by rw [cov_cons]; simp [cov_nil]
  rw [hc]
  have e0 : cnt [] q = 0 := rfl
  rcases h.2 q with ⟨a, b, c, e⟩ | ⟨a, b, c, e⟩ | ⟨a, b, e⟩
  · exact ⟨fun _ => ⟨b, c⟩, fun _ => a⟩
  · omega
  · exact ⟨fun z => absurd z a, fun z => absurd z b⟩
/-- The pages' block, when another row has grown. -/
theorem AX.grown {X : Option Nat} {w w1 : World} {base g : Nat} {P : Int} {l : List S51} {t : Int} {Y : Option Nat} (h : AX X w base g P l t) (hg : w.grownBy w1 X) (hgx : some g ≠ X) (hat : Y = X ∨ ∃ b, Y = some b ∧ w.heap.size ≤ b) : AX Y w1 base g P l t := by
  have hlt := h.lt
  obtain ⟨h0, v, h, hR⟩ := h
  refine ⟨h0, v, (hg.block g hlt hgx).trans h, ?_⟩
  have h1 := Kd.R_grown (Kd.R_bound hR) hg (fun k hk => hk.1.2)
  exact Kd.R_mono h1 (fun k hk => ⟨hk.1.1, fun e => by
    rcases hat with e2 | ⟨b, e2, hb⟩
    · rw [e2] at e; exact hk.1.2 e
    · rw [e2] at e; have := hk.2.2.1; cases e; omega⟩)
def sliceLen : Value → Nat
  | .slice _ n _ => n
  | _ => 0

set_option maxHeartbeats 8000000 in
set_option maxRecDepth 100000 in
theorem all_walk (p tn : Int) (A : Option Addr) (c : Nat) (takes : List Int) (w : World) (hC : ByC w A takes) (hwf : wfB takes) (hp : 0 ≤ p ∧ p ≤ 255) (htn : 0 ≤ tn ∧ tn ≤ 255) :
    Calls Try.prog 6 #[.int .u8 p, .slice A takes.length c, .int .u8 tn] w fun e w' => e = .returned (.bool true) ∧ Below w.heap.size w w' := by
  have HC := Aside0.mk hC
  have HWF := Aside0.mk hwf
  clear hC hwf
  have hp1 : 0 ≤ p := hp.1
  have hp2 : p ≤ 255 := hp.2
  have htn1 : 0 ≤ tn := htn.1
  have htn2 : tn ≤ 255 := htn.2
  by_cases hlen : 30 < takes.length
  · have h60 : (30 : Int) < (takes.length : Int) := by omega
    go_enter Try.func6, Try.ntmps6
    go_wp2_with fail
    refine (awake_calls _).mono ?_
    rintro e w1 ⟨rfl, hb⟩
    have HB1 := Aside0.mk hb
    clear hb
    go_wp2_with fail
    go_ret
    exact ⟨rfl, HB1.out⟩
  by_cases hz : takes.length = 0
  · have h60 : ¬ (30 : Int) < (takes.length : Int) := by omega
    have h61 : (takes.length : Int) = 0 := by omega
    go_enter Try.func6, Try.ntmps6
    go_wp2_with fail
    refine (awake_calls _).mono ?_
    rintro e w1 ⟨rfl, hb⟩
    have HB1 := Aside0.mk hb
    clear hb
    go_wp2_with fail
    go_ret
    exact ⟨rfl, HB1.out⟩
  · have h60 : ¬ (30 : Int) < (takes.length : Int) := by omega
    have h61 : ¬ (takes.length : Int) = 0 := by omega
    have h62 : ((takes.length : Int) == 0) = false := by simpa using h61
    go_enter Try.func6, Try.ntmps6
    go_wp2_with fail
    refine (awake_calls _).mono ?_
    rintro e w1 ⟨rfl, hb⟩
    have HB1 := Aside0.mk hb
    clear hb
    go_wp2_with fail
    refine (new_calls _ _).mono ?_
    rintro e w2 ⟨g, rfl, hA, hb⟩
    obtain ⟨P, hP⟩ : ∃ P, P = min (max p 1) 1048576 := ⟨_, rfl⟩
    rw [← hP] at hA
    have hP1 : 1 ≤ P ∧ P ≤ 255 := by omega
    have HA2 := Aside0.mk (AX.of (show AL w2 w.heap.size g P [⟨0, P⟩] 0 from ⟨Nat.le_trans HB1.out.size hA.1, hA.2.imp fun v h => ⟨h.1, Kd.R_lower h.2 HB1.out.size⟩⟩))
    have HB2 := Aside0.mk (below_step HB1.out hb)
    clear hA hb hP
    go_wp2
    go_loopw [9, 10] (fun vg vi wr => ∃ (k : Nat) (l : List S51) (t : Int) (got : List S51), k ≤ takes.length ∧ vi = .int .i64 k ∧ got.length ≤ k ∧ Aside0 (Inv P k l t) ∧ Aside0 (Out P l got) ∧ Aside0 (AX vg.ownBlock wr w.heap.size g P l t) ∧ Aside0 (Kd.R k51 51 wr w.heap.size (fun j => j ≠ g) vg got) ∧ Aside0 (Below w.heap.size w wr)) (fun vg vi _ => takes.length - (intOf vi).toNat)
    case atStart => exact ⟨0, [⟨0, P⟩], 0, [], Nat.zero_le _, rfl, Nat.le_refl _, ⟨Inv.start (by omega)⟩, ⟨Out.start⟩, HA2, ⟨Kd.R_nil _ _ _ _ _⟩, HB2⟩
    case round =>
      obtain ⟨k, l, t, got, hk, rfl, hgl, hI, hO, hA, hG, hB⟩ := hrel
      by_cases hlt : k < takes.length
      · obtain ⟨ad, hAd, hcells⟩ := HC.out (by omega)
        subst hAd
        have e1 := hcells k _ (List.getElem?_eq_getElem hlt)
        have hbb := HWF.out _ (List.getElem_mem hlt)
        obtain ⟨b, hbe⟩ : ∃ b, b = takes[k] := ⟨_, rfl⟩
        rw [← hbe] at e1 hbb
        replace e1 := pw_cell_below hB.out e1
        have hb1 : 0 ≤ b := hbb.1
        have hb2 : b ≤ 255 := hbb.2
        clear hbe hcells hbb
        have hin : 0 ≤ (k : Int) ∧ (k : Int) < (takes.length : Int) := by omega
        have hin2 : (k : Int) < (takes.length : Int) := by omega
        obtain ⟨A9, c9, hv9, hc9, hC9⟩ := Kd.R_reads hG.out
        subst hv9
        clear hc9 hC9
        go_wp2_with fail
        obtain ⟨N, hN⟩ : ∃ N, N = b % 9 + 1 := ⟨_, rfl⟩
        rw [← hN]
        have hN1 : 1 ≤ N ∧ N ≤ 9 := by omega
        clear hN
        by_cases hbs : bestF l N < 0
        · refine (take_no_x hA.out hI.out.fits N hN1.1 hbs).mono ?_
          rintro e w5 ⟨rfl, hA5, hK5⟩
          have HA5 := Aside0.mk hA5
          have HG5 := Aside0.mk (Kd.R_keep hG.out hK5.k (fun _ h => h))
          have HB5 := Aside0.mk (hB.out.trans hK5.b)
          clear hA5 hK5 hbs e1
          go_wp2
          go_roundw
          case rel => exact ⟨k + 1, l, t, got, by omega, by go_num, by omega, ⟨by have := hI.out; exact ⟨this.hP, this.hr, by have := this.hn; omega, by omega, by have := this.ht; omega⟩⟩, hO, HA5, HG5, HB5⟩
          case measure => simp [intOf]; omega
        · obtain ⟨i, x, hi, hx, hg0, _, hn1, hnx, hx0, hxP, hxm⟩ := best_some hI.out.hr hbs
          have HOe := Aside0.mk (hO.out.take hI.out.hr hx hn1 hnx)
          have hpt := Aside0.mk (fun (W : World) (h : AX (Value.slice A9 got.length c9).ownBlock W w.heap.size g P l t) (hX : ∀ x, (Value.slice A9 got.length c9).ownBlock = some x → x < W.heap.size) => by
            have := take_calls_x h hX hI.out.fits hI.out.tb N hN1.1 hbs
            rw [hi, Int.toNat_natCast, hg0] at this
            exact this)
          have HIe := Aside0.mk (show Inv P (k + 1) (takeAt l i N) (t + 1 + l.length) by
            have := hI.out.play (by omega) (tk N)
            unfold playL playT at this
            have hd : did P l (tk N) = true := by unfold did tk; simp only; rw [if_neg (by decide), Bool.and_eq_true, decide_eq_true_eq, decide_eq_true_eq]; omega
            rw [hd, if_pos rfl, if_pos rfl, if_neg (show ¬ (tk N).gv = true from Bool.false_ne_true)] at this
            have e : (tk N).n = N := rfl
            rw [e, hi, Int.toNat_natCast] at this
            exact this)
          obtain ⟨L2, hL2⟩ : ∃ L, L = takeAt l i N := ⟨_, rfl⟩
          rw [← hL2] at HOe HIe hpt
          clear hL2 hi hx hg0 hxm hbs
          refine (hpt.out _ hA.out (Kd.R_lt hG.out)).mono ?_
          rintro e w5 ⟨rfl, hA5, hK5⟩
          have HA5 := Aside0.mk hA5
          have HG5 := Aside0.mk (Kd.R_keep hG.out hK5.k (fun _ h => h))
          have HB5 := Aside0.mk (hB.out.trans hK5.b)
          clear hA5 hK5 e1 hpt
          go_wp2_with (at_builtin; refine Kd.R_append (w0 := w) k51 w.heap.size rfl _ _ 32 51 _ 16 rfl Try.underlying32 info51 rfl (by decide) (by decide) (.slice A9 got.length c9) got (⟨x.f0, N⟩ : S51) [.int .i64 x.f0, .int .i64 N] (fun j => j ≠ g) (fun _ => False) rfl rfl ?aP (fun _ h => h.elim) ?aF ?aO ?aB ?aS ?aL ?_)
          case aP => exact k51_mkM _ _ _ (⟨x.f0, N⟩ : S51)
          case aF => intro j hj; have := HA5.out.lt; omega
          case aO => exact HG5.out
          case aB => exact HB5.out
          case aS => exact HB5.out.size
          case aL => omega
          intro v1 w6 hR6 hB6 hg6 hat6
          have HA6 := Aside0.mk (HA5.out.grown hg6 (Kd.R_away HG5.out (fun _ h => h)) hat6)
          have HG6 := Aside0.mk hR6
          have HB6 := Aside0.mk hB6
          clear hR6 hB6 hg6 hat6
          go_wp2
          go_roundw
          case rel => exact ⟨k + 1, L2, _, got ++ [⟨x.f0, N⟩], by omega, by go_num, by simp; omega, HIe, HOe, HA6, HG6, HB6⟩
          case measure => simp [intOf]; omega
      · have hge : ¬ (k : Int) < (takes.length : Int) := by omega
        obtain ⟨A9, c9, hv9, hc9, hC9⟩ := Kd.R_reads hG.out
        subst hv9
        clear hc9 hC9
        go_wp2
        go_loopw [9] (fun vg wr => ∃ (K : Nat) (l : List S51) (t : Int) (got : List S51), K + got.length ≤ 100 ∧ Aside0 (Inv P K l t) ∧ Aside0 (Out P l got) ∧ Aside0 (AX vg.ownBlock wr w.heap.size g P l t) ∧ Aside0 (Kd.R k51 51 wr w.heap.size (fun j => j ≠ g) vg got) ∧ Aside0 (Below w.heap.size w wr)) (fun vg _ => sliceLen vg)
        case atStart => exact ⟨k, l, t, got, by omega, hI, hO, hA, hG, hB⟩
        case round =>
          obtain ⟨K, l, t, got, hKl, hI, hO, hA, hG, hB⟩ := hrel
          obtain ⟨A9, c9, hv9, hc9, hC9⟩ := Kd.R_reads hG.out
          subst hv9
          by_cases hgz : got.length = 0
          · have hgz2 : ¬ (0 : Int) < (got.length : Int) := by omega
            clear hc9 hC9
            have he := List.eq_nil_of_length_eq_zero hgz
            have hl := (show Out P l [] from he ▸ hO.out).all hP1.1 hI.out.hr
            have hA0 := hA.out.al
            have hft := hI.out.fits
            rw [hl] at hA0 hft
            have htb := hI.out.tb
            have HA := Aside0.mk hA0
            have HT := Aside0.mk htb
            have HF := Aside0.mk hft
            clear he hl hA0 hft htb
            have hpos : 1 ≤ P := hP1.1
            have hP5 : P ≤ 255 := hP1.2
            obtain ⟨LP, hLP⟩ : ∃ L : List S51, L = [⟨0, P⟩] := ⟨_, rfl⟩
            rw [← hLP] at HA HF
            have hbst : bestF LP P = 0 := by
              rw [hLP]
              show bestUpto [⟨0, P⟩] P (0 + 1) = 0
              rw [bestUpto, if_pos]; rfl
              exact ⟨by omega, by show P ≤ P; omega, .inl (by show (-1 : Int) < 0; decide)⟩
            have htk : takeAt LP (0 : Int).toNat P = [] := by
              rw [hLP]; unfold takeAt; rw [if_neg (by show ¬ P < P; omega)]; rfl
            have hgd : (LP.getD (0 : Int).toNat z51).f0 = 0 := by rw [hLP]; rfl
            have hpt := Aside0.mk (fun (W : World) (h : AL W w.heap.size g P LP t) => by
              have := take_calls h HF.out HT.out P hpos (by rw [hbst]; decide)
              rw [hbst, htk, hgd] at this
              exact this)
            have HLP := Aside0.mk hLP
            have HLN := Aside0.mk (show LP.length = 1 by rw [hLP]; rfl)
            have hf0 : fitsR ([] : List S51) = true := by decide
            have htot : totalF ([] : List S51) = 0 := rfl
            clear hbst htk hgd hLP
            go_wp2_with fail
            refine (runs_calls HA.out (by rw [HLN.out]; omega)).mono ?_
            rintro e wa ⟨va, rfl, hRa, hba⟩
            obtain ⟨ga, ca, hva, _, _, _, _⟩ := Kd.R_form hRa (by rw [HLN.out]; omega)
            subst hva
            have hCa := (Kd.R_reads' hRa).2.2
            obtain ⟨ada, hAd, e1, e2⟩ := at_T51 hCa (0 : Int) (Int.le_refl _) (by rw [HLN.out]; omega)
            obtain rfl : (⟨ga, 0, none⟩ : Addr) = ada := by injection hAd
            have hr0 : rd_T51 LP 0 = ⟨0, P⟩ := by rw [HLP.out]; rfl
            rw [hr0] at e1 e2
            simp only [Int.toNat_zero, Nat.zero_mul, add_plain, Nat.zero_add] at e1 e2
            have HAa := Aside0.mk (HA.out.below hba)
            have HBa := Aside0.mk (below_step hB.out hba)
            rw [HLN.out]
            clear hRa hba hCa hAd hr0
            go_wp2
            go_quiet ((go_at_call 22; refine Calls.quiet_of_same (pages_calls (HAa.out.below (pw_below_drewN (Below.refl _ _) _)))))
            obtain ⟨wb, hwb⟩ : ∃ wb, wb = wa.drewN nq := ⟨_, rfl⟩
            have HAb := Aside0.mk (show AL wb w.heap.size g P LP t by rw [hwb]; exact HAa.out.below (pw_below_drewN (Below.refl _ _) _))
            have HBb := Aside0.mk (show Below w.heap.size w wb by rw [hwb]; exact pw_below_drewN HBa.out _)
            rw [← hwb]
            clear hwb e1 e2
            go_wp2_with fail
            refine (pages_calls HAb.out).mono ?_
            rintro e wc ⟨rfl, rfl⟩
            go_wp2_with fail
            refine (hpt.out _ HAb.out).mono ?_
            rintro e wd ⟨rfl, hAd, hKd⟩
            have HAd := Aside0.mk hAd
            have HBd := Aside0.mk (HBb.out.trans hKd.b)
            clear hAd hKd
            go_wp2_with fail
            refine (free_calls HAd.out hf0).mono ?_
            rintro e we ⟨rfl, hb⟩
            rw [htot]
            have HAe := Aside0.mk (HAd.out.below hb)
            have HBe := Aside0.mk (below_step HBd.out hb)
            clear hb
            go_wp2_with fail
            refine (largest_calls HAe.out hf0).mono ?_
            rintro e wf ⟨mm, rfl, hmm, hb⟩
            obtain rfl : mm = 0 := by
              rcases hmm with ⟨_, h⟩ | ⟨⟨x, hx, _⟩, _⟩
              · exact h
              · simp at hx
            have HBf := Aside0.mk (below_step HBe.out hb)
            clear hb hmm
            go_wp2_with fail
            go_ret
            exact ⟨rfl, HBf.out⟩
          · have hgz2 : (0 : Int) < (got.length : Int) := by omega
            have hgz3 : ¬ (got.length : Int) = 0 := by omega
            have hgz4 : ((got.length : Int) == 0) = false := by simpa using hgz3
            obtain ⟨m, hm⟩ : ∃ m : Nat, tn % (got.length : Int) = m := ⟨(tn % (got.length : Int)).toNat, by have := Int.emod_nonneg tn (show (got.length : Int) ≠ 0 by omega); omega⟩
            have hml : m < got.length := by have := Int.emod_lt_of_pos tn (show 0 < (got.length : Int) by omega); omega
            go_wp2
            rw [hm]
            clear hm
            obtain ⟨gb, cb, hvb, hgb0, hgbl, cellsb, hgbh⟩ := Kd.R_form hG.out (by omega)
            obtain ⟨rfl, rfl⟩ : A9 = some ⟨gb, 0, none⟩ ∧ c9 = cb := by injection hvb with h1 h2 h3; exact ⟨h1, h3⟩
            have hgbg : gb ≠ g := fun e => (Kd.R_away hG.out (fun _ h => h)) (by rw [e]; rfl)
            obtain ⟨ad9, hAd, e1, e2⟩ := at_T51 (Kd.R_reads' hG.out).2.2 (m : Int) (by omega) (by omega)
            obtain rfl : (⟨gb, 0, none⟩ : Addr) = ad9 := by injection hAd
            rw [rd_get hml] at e1 e2
            have hy := List.getElem?_eq_getElem hml
            obtain ⟨y, hye⟩ : ∃ y, y = got[m] := ⟨_, rfl⟩
            rw [← hye] at e1 e2 hy
            simp only [Int.toNat_natCast, add_plain, Nat.zero_add] at e1 e2
            have hok := hO.out.ok hI.out.hr hy
            have HOe := Aside0.mk (hO.out.give hI.out.hr hy)
            have HIe := Aside0.mk (show Inv P (K + 1) (giveF l y.f0 y.f1) (t + 1 + l.length) by
              have := hI.out.play (by omega) ⟨true, y.f0, y.f1⟩
              unfold playL playT did at this
              simp only [if_true, hok] at this
              exact this)
            have hpt := Aside0.mk (fun (W : World) (h : AX (Value.slice (some ⟨gb, 0, none⟩) got.length c9).ownBlock W w.heap.size g P l t) (hX : ∀ x, (Value.slice (some ⟨gb, 0, none⟩) got.length c9).ownBlock = some x → x < W.heap.size) => give_calls_x h hX hI.out.fits hI.out.hP hI.out.tb y.f0 y.f1 hok)
            obtain ⟨L2, hL2⟩ : ∃ L, L = giveF l y.f0 y.f1 := ⟨_, rfl⟩
            rw [← hL2] at HOe HIe hpt
            obtain ⟨i0, hi0, hz0, hz1, hz2⟩ := info_parts info51
            have hcut : ∀ W : World, (Instr.slice 32 (.slice (some ⟨gb, 0, none⟩) got.length c9) none (some (.int .i64 (m : Int))) none).run Try.prog W = .ok (.slice (some ⟨gb, 0, none⟩) m c9) W := by
              have := cut_to (P := Try.prog) 32 51 .i64 Try.underlying32 hi0 (some ⟨gb, 0, none⟩) got.length c9 (m : Int) (by omega) (by omega) hc9
              simpa only [Int.toNat_natCast] using this
            have hcut2 := cut_from (P := Try.prog) 32 51 .i64 Try.underlying32 hi0 2 hz1 (some ⟨gb, 0, none⟩) got.length c9 ((m : Int) + 1) (by omega) (by omega)
            rw [show ((m : Int) + 1).toNat = m + 1 from by omega] at hcut2
            obtain ⟨A3, hA3⟩ : ∃ A3, A3 = (if c9 = m + 1 then (some (⟨gb, 0, none⟩ : Addr)) else ((some (⟨gb, 0, none⟩ : Addr))).map (·.add ((m + 1) * 2))) := ⟨_, rfl⟩
            rw [← hA3] at hcut2
            have HCC9 := Aside0.mk hc9
            have HIN := Aside0.mk hml
            have HA3 := Aside0.mk hA3
            have hin : 0 ≤ (m : Int) ∧ (m : Int) < (got.length : Int) := by omega
            clear hL2 hye hy hok hvb hAd hA3 hC9 cellsb hgbh hgz hgz2 hgz3 hgz4
            go_region_held3 (fun w' => w'.cell? ⟨gb, m * 2, none⟩ = some (.int .i64 y.f0) ∧ w'.cell? ⟨gb, m * 2 + 1, none⟩ = some (.int .i64 y.f1))
              (first | go_keep | (go_split_ands; refine ⟨?_, ?_⟩ <;> (refine (World.cell?_of_block (hK5.k.2 gb hgbl hgbg (by simp))).trans ?_; assumption)))
              ((go_at_call 10; refine (hpt.out _ (hA.out.below (below_drew (Below.refl _ _))) (Kd.R_lt hG.out)).mono ?_; rintro e w5 ⟨rfl, hA5, hK5⟩))
            all_goals
              have HA5 := Aside0.mk (AX.of hA5.al)
              have HG5 := Aside0.mk (Kd.R_keep (Kd.R_drew hG.out) hK5.k (fun _ h => h))
              have HB5 := Aside0.mk (hB.out.trans ((below_drew (Below.refl _ _)).trans hK5.b))
              clear hA5 hK5 e1 e2 hpt
            go_wp2_with (at_builtin; refine Kd.R_append_rows (w0 := w) k51 (Rr := k51.K w5) w.heap.size rfl _ _ 32 51 _ 16 rfl Try.underlying32 info51 rfl (by decide) (by decide) (.slice none 0 0) [] (got.take m) (some ⟨gb, 0, none⟩) m c9 (fun j => j ≠ g) (fun _ => False) rfl rfl (Kd.R_nil _ _ _ _ _) ?h1 ?h2 ?h3 ?h35 HB5.out ?h4 ?h5 ?_)
            case h1 =>
              have := Kd.C_take (Kd.R_reads' HG5.out).2.2 (Nat.le_of_lt HIN.out)
              rw [List.length_take, Nat.min_eq_left (Nat.le_of_lt HIN.out)] at this; exact this
            case h2 => intro x cs hx; obtain rfl := k51_open hx; exact k51_mkM _ _ _ x
            case h3 => exact fun _ h => h.elim
            case h35 => intro j hj; have := HA5.out.lt; omega
            case h4 => exact HB5.out.size
            case h5 => have := HIN.out; simp; omega
            intro v1 w6 hR6 hB6 hg6 hat6
            have HA6 := Aside0.mk (HA5.out.grown hg6 (by simp [Value.ownBlock]) hat6)
            have HG6 := Aside0.mk (Kd.R_grown HG5.out hg6 (fun k _ => by simp [Value.ownBlock]))
            have HR6 := Aside0.mk (show Kd.R k51 51 w6 w.heap.size (fun j => j ≠ g) v1 (got.take m) by simpa using hR6)
            have HB6 := Aside0.mk hB6
            clear hR6 hB6 hg6 hat6 hcut
            go_wp2_with (at_builtin; refine Kd.R_append_rows (w0 := w) k51 (Rr := k51.K w6) w.heap.size rfl _ _ 32 51 _ 16 rfl Try.underlying32 info51 rfl (by decide) (by decide) v1 (got.take m) (got.drop (m + 1)) A3 (got.length - (m + 1)) (c9 - (m + 1)) (fun j => j ≠ g) (fun _ => False) rfl rfl HR6.out ?k1 ?k2 ?k3 ?k35 HB6.out ?k4 ?k5 ?_)
            case k1 =>
              have := Kd.C_drop (Kd.R_reads' HG6.out).2.2 (show m + 1 ≤ got.length from HIN.out) HCC9.out
              rw [List.length_drop] at this; rw [HA3.out]; exact this
            case k2 => intro x cs hx; obtain rfl := k51_open hx; exact k51_mkM _ _ _ x
            case k3 => exact fun _ h => h.elim
            case k35 => intro j hj; have := HA6.out.lt; omega
            case k4 => exact HB6.out.size
            case k5 => rw [List.length_take]; omega
            intro v2 w7 hR7 hB7 hg7 hat7
            have HA7 := Aside0.mk (HA6.out.grown hg7 (Kd.R_away HR6.out (fun _ h => h)) hat7)
            obtain ⟨A7, c7, rfl⟩ := Kd.R_slice hR7
            have HR7 := Aside0.mk hR7
            have HB7 := Aside0.mk hB7
            have hlen7 : (got.take m ++ got.drop (m + 1)).length + 1 = got.length := by have := HIN.out; rw [List.length_append, List.length_take, List.length_drop]; omega
            have HL7 := Aside0.mk hlen7
            clear hR7 hB7 hg7 hat7 hcut2 hlen7
            go_wp2
            go_roundw
            case rel => exact ⟨K + 1, L2, _, _, by have := HL7.out; omega, HIe, HOe, HA7, HR7, HB7⟩
            case measure => have := HL7.out; simp [sliceLen] at this ⊢; omega
end Go.Proofs.Ytdkedgdieoojgaa.Rn
