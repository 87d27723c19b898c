/- Order's visit: the recursive closure, walked. -/
import Derived.Test.YtjnpbikalamchaaMVisit
import Derived.Maps.AppendAt
set_option linter.unusedVariables false
set_option linter.unusedSimpArgs false
namespace Go.Proofs.Ytjnpbikalamchaa.Tr
open Go.RowKit Go.Maps Go.Shelf Go.Proofs.YtjnpbikalamchaaW.PrintWords Go.Proofs.YtjnpbikalamchaaW.PrintLast Go.Proofs.YtjnpbikalamchaaW.PrintMore
attribute [local go_sem] Oper.semAt_some
theorem nums_of {w : World} {base : Nat} {ok : Nat → Prop} {sv : Value} {zs : List Int} (h : (Kd.int .u64).R 27 w base ok sv zs) : Nums w.heap.size w sv zs := by
  rcases Nat.eq_zero_or_pos zs.length with h0 | h0
  · obtain ⟨A, c, rfl⟩ := Kd.R_slice h
    have : zs = [] := List.eq_nil_of_length_eq_zero h0
    subst this
    exact .inl ⟨A, c, rfl, rfl⟩
  · obtain ⟨b, c, rfl, hb, hl, _⟩ := Kd.R_form h (by omega)
    refine .inr ⟨b, c, rfl, hl, fun j hj => ?_⟩
    obtain ⟨b', c', he, hc, _⟩ := row_at h hj
    injection he with he _ _
    injection he with he
    injection he with he
    subst he
    exact hc
theorem CallsIn.anyDepth {F : Fence} (hd : F.depth = none) {q q' : Nat} {P : Program} {f : FuncId} {args : Array Value} {w : World} {R : Ending → World → Prop} (h : CallsIn F q P f args w R) : CallsIn F q' P f args w R :=
  ⟨h.1, fun cs _ => h.2 cs (fun d h => by rw [hd] at h; cases h)⟩
theorem R_shrink {k : IntKind} {e : Nat} {w : World} {base : Nat} {ok : Nat → Prop} {v : Value} {xs : List Int} (h : (Kd.int k).R e w base ok v xs) : (Kd.int k).R e w base (fun j => v.ownBlock = some j) v xs := ⟨fun _ h => h, h.2.imp_ (fun _ _ hp => hp)⟩
/-- append(v, x) in the fence: a row of numbers. -/
theorem app_in {F : Fence} {q : Nat} {W : World} {ops : Array Oper} {rest : List Oper} {o : Oper} {a : Act} {Q : Exit → Act → World → Prop} (base : Nat) (hgd : o.guard = none) (s x : Operand)
    (ho : o.op = .call { callee := .builtin .append, args := #[s, x], argTypes := #[33, 33] }) (v : Value) (xs : List Int) (p : Int) (hs : a.eval s = v) (hx : a.eval x = .slice (some ⟨W.heap.size, 0, none⟩) 1 1)
    (HO : (Kd.int .u64).R 27 W base (fun k => v.ownBlock = some k) v xs) (hbase : base ≤ W.heap.size) (hl : xs.length ≤ 10000000)
    (h : ∀ v1 w1, (Kd.int .u64).R 27 w1 base (fun k => v1.ownBlock = some k) v1 (xs ++ [p]) → W.grownBy w1 v.ownBlock → (v1.ownBlock = v.ownBlock ∨ ∃ b, v1.ownBlock = some b ∧ W.heap.size ≤ b) → wpListIn F q Try.prog ops Q rest (a.put o.dst v1) w1) :
    wpListIn F q Try.prog ops Q (o :: rest) a (W.alloc (.cells #[.int .u64 p] 27)) := by
  obtain ⟨i0, hi, hz0, hz1, hz2⟩ := info_parts info27
  obtain ⟨h0, inner, hown, hr⟩ := HO
  have hbytes : (xs.length + 1) * 8 ≤ 140737488355328 := by omega
  refine wpListIn_plain hgd fun K hK' => ?_
  obtain ⟨v', w', hrun, r1, r2, r3, r4⟩ := run_append_own_at (P := Try.prog) (W.alloc (.cells #[.int .u64 p] 27)) base 33 o.type 27 i0 (.int .u64 0) 1 8 Try.underlying33 hi hz0 hz1 hz2 rfl (by decide) v xs.length inner (hown.alloc _) ⟨W.heap.size, 0, none⟩ 1 1 [.int .u64 p] rfl (cell_one_new _ _ _) (by simp [Value.oneCell']) (by unfold maxLen; omega) hbytes (by simp; omega)
  unfold Oper.wpIn
  refine ⟨?_, ?_⟩
  · simp [Oper.about, ho, resolve, Target.leads, Sem.run_pure]
  · rw [Oper.semAt_plain F _ _ (by rw [ho]; intro c hc'; cases hc')]
    simp [execOp, ho, resolve, invoke, builtin, hs, hx, hrun, Result.andThen]
    have hg : W.grownBy w' v.ownBlock := World.grownBy.trans (World.grownBy_alloc W _ _) r2
    have hat : v'.ownBlock = v.ownBlock ∨ ∃ b, v'.ownBlock = some b ∧ W.heap.size ≤ b := by
      rcases r4 with e | e
      · exact .inl e
      · exact .inr ⟨_, e, by simp⟩
    refine hK' _ _ (h v' w' (R_shrink (Kd.R_appended (d := Kd.int .u64) (ok := fun k => v.ownBlock = some k ∨ W.heap.size ≤ k) (okp := fun _ => False) (W := W) (p := p) (fun k hk => .inl (h0 k hk)) hr rfl (fun _ h => h.elim) (fun k hk => .inr hk) r1 hg hat)) hg hat)
theorem blk1_f {w : World} {g : Nat} {x : Value} {t : Nat} (h : w.heap[g]? = some (.cells #[x] t (0, 0))) (j : Nat) : w.frozen? ⟨g, j, none⟩ = false := by simp [World.frozen?, h]
section
variable {w0 : World} {base : Nat} {ok : Nat → Prop} {g : Nat} {S : Int → Bool} {n : Nat} {pa : Int → Int} {ki : Int → List Int} {m : Nat} {nb : Int → Nat} {tag : Nat → Nat} {D : DataW Unit}
set_option maxRecDepth 100000 in
set_option maxHeartbeats 4000000 in
theorem visit_in (hT : TX w0 base ok g S n pa ki m nb tag D) (hS : ∀ id, S id = true → ∀ c ∈ ki id, S c = true) (N M L : Nat) (hN : ∀ id, (ki id).length ≤ N) (hN2 : N ≤ 1000) (hM : ∀ k id, (ordF ki k id).length ≤ M) (hL : L ≤ 1000000)
    (F : Fence) (hd : F.depth = none) (h31 : F.fn 31) (h32 : F.fn 32) (h34 : F.fn 34) (hro : F.round = none) (Bt Bv Bo : Nat) (hbo0 : w0.heap.size ≤ Bo) :
    ∀ (k : Nat) (q : Nat) (id : Int) (acc : List Int) (v : Value) (W : World), S id = true → Dp ki k id → VI w0.heap.size Bt Bv Bo g w0 acc W v → acc.length + k * (N * M + 1) ≤ L →
      CallsIn F q Try.prog 31 #[.int .u64 id, .pointer (some ⟨Bt, 0, none⟩), .pointer (some ⟨Bv, 0, none⟩), .pointer (some ⟨Bo, 0, none⟩)] W fun e W' => (∃ u, e = .returned u) ∧ ∃ v', VI w0.heap.size Bt Bv Bo g w0 (acc ++ ordF ki k id) W' v' ∧ Vis w0.heap.size Bo W v W' v' := by
  intro k
  induction k with
  | zero => intro q id acc v W _ h; exact h.elim
  | succ k ih =>
    intro q' id acc v W hs hD hI hlen
    refine CallsIn.anyDepth hd (q := 9) ?_
    have hTW := hT.step (fun k _ hk => hI.hB.block k hk)
    obtain ⟨sv, hb, _, _, _, hR⟩ := hT.node id hs
    have hnums := (nums_of hR).below hI.hB
    have hbW := (hI.hB.block _ (lt_blk hb)).trans hb
    have g0 := blk1_0 hTW.blk
    have g1 := blk2_1 hbW
    have gt := blk1_0 hI.bt
    have hrun := hTW.map.look hTW.own (hTW.rng id hs)
    rw [hs, if_pos rfl] at hrun
    obtain ⟨A, c, rfl⟩ := Kd.R_slice hR
    have hdd : ∀ k : Nat, (F.depth.isSome = true → 1 ≤ k) := fun k h => by rw [hd] at h; cases h
    clear hb hbW hR hTW
    refine callsIn_of_wp_marks Try.func31 rfl h31 ?_ hro
    simp only [Try.ntmps31, List.size_toArray, List.length_cons, List.length_nil, Nat.reduceAdd, Nat.reduceSub, Array.replicate_succ, Array.replicate_zero, List.push_toArray, List.append_toArray, List.nil_append, List.cons_append]
    gi_wp2_with ((try refine ⟨hdd _, ?_⟩); gi_at_call 32; refine (back_in F (9 - 1) h32 hro _ _ _ _).mono ?_; rintro e w' ⟨rfl, rfl⟩)
    have hBo : Bo < W.heap.size := lt_blk hI.bo
    have hn0 : w0.heap.size ≤ W.heap.size := hI.hB.size
    have hBs := heap_alloc_new W (.cells #[.slice A (ki id).length c] 33)
    have hI1 := hI.grown (World.grownBy_alloc W (.cells #[.slice A (ki id).length c] 33) none) (by simp) (Nat.le_refl _)
    have hV1 := (Vis.refl w0.heap.size Bo W v).grown (World.grownBy_alloc W (.cells #[.slice A (ki id).length c] 33) none) (B := W.heap.size) (by simp) (Nat.le_refl _) hn0
    have hB1 : Below w0.heap.size W (W.alloc (.cells #[.slice A (ki id).length c] 33)) := hV1.hB
    have hflat : ∀ pre : List (Kid (ki id)), (pre.flatMap (fun x => ordF ki k x.c)).length ≤ pre.length * M := by
      intro pre
      induction pre with
      | nil => simp
      | cons x r ihp => simp only [List.flatMap_cons, List.length_append, List.length_cons, Nat.succ_mul]; have := hM k x.c; omega
    refine wpIn_rangeFunc_ownG hro (by decide) (gf := 34) (lb := #[.pointer (some ⟨W.heap.size, 0, none⟩)]) rfl h34 (enters_of Try.func34 (by kernel_rfl) rfl)
      (back_stops (kids_items (ki id)) F (9 - 1) h34 hro (by decide) W.heap.size w0.heap.size (.slice A (ki id).length c) (by have := hN id; omega) _ (by simp; omega) hBs (hnums.below hB1)) KpB.t (fun W' l o o' hl h hc hw => KpB.b (by simp; omega) W' l o o' hl h hc hw) (Below.refl _ _) (fun _ => rfl)
      (fun pre W' => ∃ v', VI w0.heap.size Bt Bv Bo g w0 (acc ++ pre.flatMap (fun x => ordF ki k x.c)) W' v' ∧ Vis w0.heap.size Bo W v W' v')
      (fun _ _ _ => False)
      (fun pre X Y row hs hg hr => by
        obtain ⟨v', h1, h2⟩ := hs
        exact ⟨v', h1.grown hg (fun r e => ⟨by have := (hr r e).1; simp at this; omega, (hr r e).2⟩) (Nat.le_refl _), h2.grown hg (B := W.heap.size) (fun r e => by have := (hr r e).1; simp at this; omega) (Nat.le_refl _) hn0⟩)
      (fun _ _ _ _ _ hs _ _ => hs)
      ⟨v, by simpa using hI1, hV1⟩
      (fun x => { tmps := #[.int .u64 id, .pointer (some ⟨Bt, 0, none⟩), .pointer (some ⟨Bv, 0, none⟩), .pointer (some ⟨Bo, 0, none⟩), undef, undef, .int .u64 x.c, .pointer (some ⟨g, 0, none⟩), .pointer (some ⟨g, 0, none⟩), .pointer (some ⟨g, 0, none⟩), .map (some m), .int .u64 id, .pointer (some ⟨nb id, 0, none⟩), .pointer (some ⟨nb id, 0, none⟩), .pointer (some ⟨nb id, 1, none⟩), .slice A (ki id).length c, .func (.func 34) #[] #[.pointer (some ⟨W.heap.size, 0, none⟩)], .int .i64 x.i, .int .u64 x.c, undef, undef, undef, undef, undef, undef, undef], defers := [] }) ?assign ?body ?done ?stop
    case assign =>
      intro l x W' K hK
      gi_wp2
      exact hK
    case body =>
      rintro l pre x W2 ⟨v2, h2, hv2⟩ hpl
      have gv := blk1_0 h2.bv
      have hbound : (acc ++ pre.flatMap (fun x => ordF ki k x.c)).length + k * (N * M + 1) ≤ L := by
        have e1 := hflat pre
        have e2 : pre.length * M ≤ N * M := Nat.mul_le_mul_right _ (by have := hN id; omega)
        rw [List.length_append]
        rw [Nat.succ_mul] at hlen
        omega
      have hcall := CallsIn.inRound l (CallsIn.anyDepth hd (q' := 9 - 1 - 1 - 1) (ih 9 x.c _ v2 W2 (hS id hs x.c x.mem) (hD x.c x.mem) h2 hbound))
      gi_wp2_with ((try refine ⟨hdd _, ?_⟩); gi_at_call 31; refine hcall.mono ?_; clear hcall; rintro e W3 ⟨⟨u, rfl⟩, v3, h3, hv3⟩)
      exact ⟨h2.keeps hv3 _, h2.kpb hv3 (by omega), v3, by simpa [List.append_assoc] using h3, hv2.trans hv3⟩
    case done =>
      rintro D2 ys W2 hD2 rfl ⟨v2, h2, hv2⟩ hK
      have go := blk1_0 h2.bo
      rw [kids_flat (ki id) (ordF ki k)] at h2
      obtain ⟨xs, hxs⟩ : ∃ xs, xs = acc ++ (ki id).reverse.flatMap (ordF ki k) := ⟨_, rfl⟩
      have hfull : acc ++ ordF ki (k + 1) id = xs ++ [id] := by rw [hxs]; simp [ordF]
      have hxl : xs.length ≤ 1000000 := by
        have e1 := hflat (kidsL (ki id))
        rw [kids_flat (ki id) (ordF ki k), (kids_items (ki id)).len] at e1
        have e2 : (ki id).length * M ≤ N * M := Nat.mul_le_mul_right _ (hN id)
        rw [hxs, List.length_append]
        rw [Nat.succ_mul] at hlen
        omega
      rw [← hxs] at h2
      have HF := Aside0.mk hfull
      clear hxs hfull
      have hne : ∀ b, v2.ownBlock = some b → b ≠ Bo := fun b hb => by
        rintro rfl
        obtain ⟨cs, hcs⟩ := h2.typed hb
        rw [h2.bo] at hcs; injection hcs with hcs; injection hcs with _ e2 _; exact absurd e2 (by decide)
      obtain ⟨A2, c2, rfl⟩ := Kd.R_slice h2.row
      gi_wp2_with (gi_at_builtin; refine app_in w0.heap.size rfl _ _ rfl (.slice A2 xs.length c2) xs id rfl rfl h2.row h2.hB.size (by omega) ?_; intro v1 w5 hR5 hg5 hat5; have hb6 : w5.heap[Bo]? = _ := (hg5.block _ (lt_blk h2.bo) (fun e => hne _ e.symm rfl)).trans h2.bo; have g6 := blk1_0 hb6; have f6 := blk1_f hb6 0; obtain ⟨sb, cc, rfl, hsb, _, _⟩ := Kd.R_form hR5 (by simp))
      have hap := h2.append hR5 hg5 hat5 (Nat.le_refl _) hbo0
      have hD5 : (w5.setCell ⟨Bo, 0, none⟩ (.slice (some ⟨sb, 0, none⟩) (xs ++ [id]).length cc)).heap[D2]? = some (.deferred (some [])) := (h2.keeps hap.2 0).same D2 _ (Nat.zero_le _) hK rfl
      have hVI := hap.1.grown (grownBy_putObj' _ D2 (.deferred none)) (fun r e => by cases e; exact ⟨by simp at hD2; omega, _, hD5, rfl⟩) (Nat.le_refl _)
      have hVs := (hv2.trans hap.2).grown (grownBy_putObj' _ D2 (.deferred none)) (B := W.heap.size) (fun r e => by cases e; simp at hD2; omega) (Nat.le_refl _) hn0
      refine ⟨by simp, .inl ⟨_, _, rfl, run_takeDeferred (by rw [List.length_append, List.length_singleton] at hD5; exact hD5), ?_⟩⟩
      rw [HF.out]
      rw [List.length_append, List.length_singleton] at hVI hVs
      exact ⟨_, results_none rfl _ _ _, ⟨_, rfl⟩, _, hVI, hVs⟩
    case stop =>
      rintro D2 c2 pre W2 _ _ h _
      exact h.elim
end
end Go.Proofs.Ytjnpbikalamchaa.Tr
