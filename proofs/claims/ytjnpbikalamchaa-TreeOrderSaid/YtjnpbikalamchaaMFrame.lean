/- What a call leaves as it was; which block is whose. -/
import Derived.Test.YtjnpbikalamchaaWMore
import Derived.Test.YtjnpbikalamchaaWLast
import Derived.Test.YtjnpbikalamchaaProg
set_option linter.unusedVariables false
set_option linter.unusedSimpArgs false
namespace Go.Proofs.Ytjnpbikalamchaa.Tr
open Go.RowKit Go.Proofs.YtjnpbikalamchaaW.PrintWords Go.Proofs.YtjnpbikalamchaaW.PrintLast Go.Proofs.YtjnpbikalamchaaW.PrintMore
/-! ### what a call leaves as it was -/
structure Fr (base : Nat) (ok : Nat → Prop) (w w' : World) : Prop where
  b : Below base w w'
  k : ∀ i, i < w.heap.size → ¬ ok i → w'.heap[i]? = w.heap[i]?
theorem Fr.refl (base : Nat) (ok : Nat → Prop) (w : World) : Fr base ok w w := ⟨Below.refl _ _, fun _ _ _ => rfl⟩
theorem Fr.of_below {base : Nat} {ok : Nat → Prop} {w w1 : World} (h : Below w.heap.size w w1) (hb : base ≤ w.heap.size) : Fr base ok w w1 := ⟨h.mono hb, fun i hi _ => h.block i hi⟩
theorem Fr.trans {base : Nat} {ok : Nat → Prop} {w w1 w2 : World} (h : Fr base ok w w1) (k : Fr base ok w1 w2) : Fr base ok w w2 :=
  ⟨h.b.trans k.b, fun i hi ho => (k.k i (Nat.lt_of_lt_of_le hi h.b.size) ho).trans (h.k i hi ho)⟩
theorem Fr.set {base : Nat} {ok : Nat → Prop} {w w1 : World} (h : Fr base ok w w1) {b : Nat} (hb : base ≤ b) (ho : ok b) (j : Nat) (u : Value) : Fr base ok w (w1.setCell ⟨b, j, none⟩ u) :=
  ⟨h.b.setCell (p := ⟨b, j, none⟩) hb u, fun i hi hn => (Below.heap_setCell _ _ _ _ (fun e => hn (by rw [show i = b from e]; exact ho))).trans (h.k i hi hn)⟩
theorem Fr.drew {base : Nat} {ok : Nat → Prop} {w w1 : World} (h : Fr base ok w w1) : Fr base ok w w1.drew := ⟨below_drew h.b, h.k⟩
theorem Fr.mono {base : Nat} {ok ok' : Nat → Prop} {w w1 : World} (h : Fr base ok w w1) (ho : ∀ k, ok k → ok' k) : Fr base ok' w w1 := ⟨h.b, fun i hi hn => h.k i hi (fun h => hn (ho i h))⟩
/-- Block k is owner j's. -/
def tg (own : Nat → Nat) (j : Nat) : Nat → Prop := fun k => own k = j
/-- What is new from n on is owner j's. -/
def up (own : Nat → Nat) (n j : Nat) : Nat → Nat := fun k => if k < n then own k else j
theorem up_old {own : Nat → Nat} {n j k : Nat} (h : k < n) : up own n j k = own k := by unfold up; rw [if_pos h]
theorem up_new {own : Nat → Nat} {n j k : Nat} (h : n ≤ k) : up own n j k = j := by unfold up; rw [if_neg (by omega)]
theorem up_keep {own : Nat → Nat} {n i j k : Nat} (h : own k = i) (hk : k < n) : up own n j k = i := (up_old hk).trans h
theorem up_fresh (own : Nat → Nat) (n j : Nat) : ∀ k, n ≤ k → tg (up own n j) j k := fun k hk => up_new hk
section
variable {α : Type} {d : Kd α} {e : Nat} {w w' : World} {base : Nat} {own : Nat → Nat} {i j : Nat} {v : Value} {xs : List α}
/-- A row of owner i, told by the new owners. -/
theorem R_up (h : d.R e w base (tg own i) v xs) : d.R e w base (tg (up own w.heap.size j) i) v xs :=
  Kd.R_mono (Kd.R_bound h) (fun k hk => (up_old hk.2.2.1).trans hk.1)
/-- A row of another owner stays. -/
theorem R_pass (h : d.R e w base (tg own i) v xs) (hf : Fr base (tg (up own w.heap.size j) j) w w') (hij : i ≠ j) : d.R e w' base (tg (up own w.heap.size j) i) v xs :=
  Kd.R_mono (Kd.R_step (Kd.R_bound h) (fun k hk hlt => hf.k k hlt (fun e => hij (by have h1 := hk.1; unfold tg at h1 e; rw [up_old hlt] at e; omega)))) (fun k hk => (up_old hk.2.2.1).trans hk.1)
/-- A row of the owner himself, that the call leaves alone (the call has made new blocks alone). -/
theorem R_stay (h : d.R e w base (tg own i) v xs) (hb : Below w.heap.size w w') : d.R e w' base (tg (up own w.heap.size j) i) v xs := Kd.R_below (R_up h) hb
/-- A cell of the elder world stays. -/
theorem fr_cell {ok : Nat → Prop} {w0 : World} (h0 : Below w0.heap.size w0 w) (hb : w0.heap.size ≤ base) (hf : Fr base ok w w') : Below w0.heap.size w0 w' :=
  h0.trans (hf.b.mono hb)
/-- A block of owner i stays while owner j acts. -/
theorem blk_pass {b : Nat} {o : Obj} (hb : w.heap[b]? = some o) (ho : own b = i) (hf : Fr base (tg (up own w.heap.size j) j) w w') (hij : i ≠ j) : w'.heap[b]? = some o := by
  have hlt := (Array.getElem?_eq_some_iff.1 hb).1
  rw [hf.k b hlt (fun e => hij (by unfold tg at e; rw [up_old hlt] at e; omega))]
  exact hb
end
/-- A row grew: the others' blocks are as they were. -/
theorem fr_grown {α : Type} {d : Kd α} {e : Nat} {w w1 : World} {base : Nat} {own : Nat → Nat} {j : Nat} {v : Value} {xs : List α} (hR : d.R e w base (tg own j) v xs) (hg : w.grownBy w1 v.ownBlock) (hbase : base ≤ w.heap.size) : Fr base (tg (up own w.heap.size j) j) w w1 := by
  have hown : ∀ k, v.ownBlock = some k → tg own j k ∧ base ≤ k ∧ k < w.heap.size := fun k hk => ⟨hR.1 k hk, by
    rcases Kd.R_base2 hR with h | ⟨i, hi, hbi⟩
    · rw [h] at hk; exact absurd hk (by simp)
    · rw [hi] at hk; injection hk with hk; omega, own_lt (Kd.R_own hR).choose_spec k hk⟩
  refine ⟨⟨hg.os, hg.tape, hg.output, hg.size, fun k hk => hg.block k (by omega) (fun e => by have := (hown k e.symm).2.1; omega)⟩, fun i hi hn => hg.block i hi (fun e => hn ?_)⟩
  have h2 := hown i e.symm
  show up own w.heap.size j i = j
  rw [up_old h2.2.2]
  exact h2.1
section
variable {P : Program} {ops : Array Oper} {rest : List Oper} {o : Oper} {a : Act} {Q : Exit → Act → World → Prop} {α : Type}
/-- append(v, x) on a row of owner j. -/
theorem app_own (d : Kd α) {W : World} (base : Nat) (hgd : o.guard = none) (s x : Operand) (t e : TypeId) (z : Value) (bytes : Nat)
    (ho : o.op = .call { callee := .builtin .append, args := #[s, x], argTypes := #[t, t] })
    (ht : P.underlying t = some (.slice e)) (hinfo : (P.info? e).map (fun i => (i.zero, i.size, i.bytes)) = some (some z, d.sz, bytes)) (hz : z.cells.size = d.sz) (hs0 : 0 < d.sz) (hb0 : 0 < bytes)
    (v : Value) (xs : List α) (p : α) (cs : List Value) (own : Nat → Nat) (j : Nat) (hs : a.eval s = v) (hx : a.eval x = .slice (some ⟨W.heap.size, 0, none⟩) 1 1) (hp : d.M W base (fun _ => False) p cs)
    (HO : d.R e W base (tg own j) v xs) (hbase : base ≤ W.heap.size) (hl : (xs.length + 1) * bytes ≤ 140737488355328)
    (h : ∀ v1 w1, d.R e w1 base (tg (up own W.heap.size j) j) v1 (xs ++ [p]) → Fr base (tg (up own W.heap.size j) j) W w1 → wpList P ops Q rest (a.put o.dst v1) w1) :
    wpList P ops Q (o :: rest) a (W.alloc (.cells cs.toArray e)) :=
  Kd.R_append d (w0 := W) base hgd s x t e z bytes ho ht hinfo hz hs0 hb0 v xs p cs (tg (up own W.heap.size j) j) (fun _ => False) hs hx hp (fun _ h => h.elim) (up_fresh own _ j) (R_up HO) (Below.refl _ _) hbase hl
    (fun v1 w1 hR _ hg _ => h v1 w1 hR (fr_grown HO hg hbase))
end
/-- An element of a row of numbers. -/
theorem row_at {k : IntKind} {e : Nat} {w : World} {base : Nat} {ok : Nat → Prop} {v : Value} {xs : List Int} (h : (Kd.int k).R e w base ok v xs) {i : Nat} (hi : i < xs.length) :
    ∃ b c, v = .slice (some ⟨b, 0, none⟩) xs.length c ∧ w.cell? ⟨b, i, none⟩ = some (.int k (xs.getD i 0)) ∧ w.frozen? ⟨b, i, none⟩ = false := by
  obtain ⟨b, c, rfl, hb, hlt, hcells⟩ := Kd.R_form h (by omega)
  obtain ⟨cs, hcl, hM, hcc, hfr⟩ := Kd.R_elem h (0 : Int) (i : Int) (by omega) (by omega)
  have hcs : cs = [.int k (xs.getD (i : Int).toNat 0)] := hM
  rw [Int.toNat_natCast] at hcs
  subst hcs
  have hmm : (i : Int).toNat * (Kd.int k).sz + 0 = i := by rw [Int.toNat_natCast]; show i * 1 + 0 = i; omega
  have h0 := hcc 0 _ rfl
  have h1 := hfr 0
  rw [hmm] at h0 h1
  exact ⟨b, c, rfl, h0, h1⟩
section
variable {P : Program} {ops : Array Oper} {rest : List Oper} {o : Oper} {a : Act} {Q : Exit → Act → World → Prop}
/-- append(v, ys...) on a row of numbers of owner j. -/
theorem app_row_own (k : IntKind) {W : World} (base : Nat) (hgd : o.guard = none) (s x : Operand) (t e : TypeId) (z : Value) (bytes : Nat)
    (ho : o.op = .call { callee := .builtin .append, args := #[s, x], argTypes := #[t, t] })
    (ht : P.underlying t = some (.slice e)) (hinfo : (P.info? e).map (fun i => (i.zero, i.size, i.bytes)) = some (some z, 1, bytes)) (hz : z.cells.size = 1) (hb0 : 0 < bytes)
    (v : Value) (xs ys : List Int) (A : Option Addr) (m c : Nat) (own : Nat → Nat) (j : Nat) (hs : a.eval s = v) (hx : a.eval x = .slice A m c)
    (HO : (Kd.int k).R e W base (tg own j) v xs) (HR : (Kd.int k).C W A m ys) (hbase : base ≤ W.heap.size) (hl : (xs.length + m) * bytes ≤ 140737488355328)
    (h : ∀ v1 w1, (Kd.int k).R e w1 base (tg (up own W.heap.size j) j) v1 (xs ++ ys) → Fr base (tg (up own W.heap.size j) j) W w1 → wpList P ops Q rest (a.put o.dst v1) w1) :
    wpList P ops Q (o :: rest) a W :=
  Kd.R_append_row (Value.int k) (0 : Int) (w0 := W) base hgd s x t e z bytes ho ht hinfo hz hb0 v xs ys A m c (tg (up own W.heap.size j) j) hs hx (up_fresh own _ j) (R_up HO) HR (Below.refl _ _) hbase hl
    (fun v1 w1 hR _ hg _ => h v1 w1 hR (fr_grown HO hg hbase))
end
section
variable {P : Program} {ops : Array Oper} {rest : List Oper} {o : Oper} {a : Act} {Q : Exit → Act → World → Prop}
/-- append(nil, ys...): a new row of owner j; all else is as it was. -/
theorem app_row_new (k : IntKind) {W : World} (base : Nat) (hgd : o.guard = none) (s x : Operand) (t e : TypeId) (z : Value) (bytes : Nat)
    (ho : o.op = .call { callee := .builtin .append, args := #[s, x], argTypes := #[t, t] })
    (ht : P.underlying t = some (.slice e)) (hinfo : (P.info? e).map (fun i => (i.zero, i.size, i.bytes)) = some (some z, 1, bytes)) (hz : z.cells.size = 1) (hb0 : 0 < bytes)
    (ys : List Int) (A : Option Addr) (m c : Nat) (own : Nat → Nat) (j : Nat) (hs : a.eval s = .slice none 0 0) (hx : a.eval x = .slice A m c)
    (HR : (Kd.int k).C W A m ys) (hbase : base ≤ W.heap.size) (hl : (0 + m) * bytes ≤ 140737488355328)
    (h : ∀ v1 w1, (Kd.int k).R e w1 base (tg (up own W.heap.size j) j) v1 ys → Below W.heap.size W w1 → wpList P ops Q rest (a.put o.dst v1) w1) :
    wpList P ops Q (o :: rest) a W :=
  Kd.R_append_row (Value.int k) (0 : Int) (w0 := W) base hgd s x t e z bytes ho ht hinfo hz hb0 (.slice none 0 0) [] ys A m c (tg (up own W.heap.size j) j) hs hx (up_fresh own _ j) (Kd.R_nil _ _ _ _ _) HR (Below.refl _ _) hbase hl
    (fun v1 w1 hR _ hg _ => h v1 w1 hR ⟨hg.os, hg.tape, hg.output, hg.size, fun i hi => hg.block i hi (by simp [Value.ownBlock])⟩)
end
/-- A number of a row of owner j is written. -/
theorem put_own {k : IntKind} {e : Nat} {w : World} {base : Nat} {own : Nat → Nat} {j g cap : Nat} {xs : List Int} (h : (Kd.int k).R e w base (tg own j) (.slice (some ⟨g, 0, none⟩) xs.length cap) xs) (hbase : base ≤ w.heap.size) (i : Nat) (x : Int) :
    (Kd.int k).R e (w.setCell ⟨g, i, none⟩ (.int k x)) base (tg (up own w.heap.size j) j) (.slice (some ⟨g, 0, none⟩) xs.length cap) (xs.set i x) ∧ Fr base (tg (up own w.heap.size j) j) w (w.setCell ⟨g, i, none⟩ (.int k x)) := by
  obtain ⟨h1, h2⟩ := Kd.R_put (enc := Value.int k) h (i : Int) x
  rw [Int.toNat_natCast] at h1 h2
  refine ⟨?_, fr_grown h (by simpa [Value.ownBlock] using h2) hbase⟩
  have := R_up (j := j) h1
  rw [show (w.setCell ⟨g, i, none⟩ (.int k x)).heap.size = w.heap.size from by simp] at this
  exact this
/-- A list of handles, cut behind its last but one. -/
theorem cut_last {k : IntKind} {t e : Nat} (ht : Try.prog.underlying t = some (.slice e)) {z : Value} {bytes : Nat} {w0 : World} {base : Nat} {ok : Nat → Prop} {A : Option Addr} {n c : Nat} {xs : List Int} (h : (Kd.int k).R e w0 base ok (.slice A n c) xs) (hn : n = xs.length) (m : Nat) (hm : m ≤ xs.length) (hi : (Try.prog.info? e).map (fun i => (i.zero, i.size, i.bytes)) = some (some z, 1, bytes)) :
    (∀ W : World, (Instr.slice t (.slice A n c) none (some (.int .i64 (m : Int))) none).run Try.prog W = .ok (.slice A m c) W) ∧ (Kd.int k).R e w0 base ok (.slice A m c) (xs.take m) := by
  obtain ⟨ii, hii, hz0, hz1, hz2⟩ := info_parts hi
  subst hn
  have hcap : xs.length ≤ c := (Kd.R_reads' h).2.1
  refine ⟨fun W => ?_, Kd.R_take h hm⟩
  have := cut_to (P := Try.prog) t e .i64 ht hii A xs.length c (m : Int) (by omega) (by omega) hcap W
  simpa only [Int.toNat_natCast] using this
/-- A list of handles, cut before and behind its k-th. -/
theorem cuts {w0 : World} {base : Nat} {ok : Nat → Prop} {v : Value} {xs : List Int} (h : (Kd.int .u64).R 27 w0 base ok v xs) {k : Nat} (hk : k < xs.length) (hi : (Try.prog.info? 27).map (fun i => (i.zero, i.size, i.bytes)) = some (some (.int .u64 0), 1, 8)) :
    ∃ b c, v = .slice (some ⟨b, 0, none⟩) xs.length c ∧ (∀ W : World, (Instr.slice 33 (.slice (some ⟨b, 0, none⟩) xs.length c) none (some (.int .i64 (k : Int))) none).run Try.prog W = .ok (.slice (some ⟨b, 0, none⟩) k c) W) ∧
      ∃ A2 c2, (∀ W : World, (Instr.slice 33 (.slice (some ⟨b, 0, none⟩) xs.length c) (some (.int .i64 ((k : Int) + 1))) none none).run Try.prog W = .ok (.slice A2 (xs.length - (k + 1)) c2) W) ∧
        ∀ (W : World) (ok2 : Nat → Prop), (Kd.int .u64).R 27 W base ok2 (.slice (some ⟨b, 0, none⟩) xs.length c) xs → (Kd.int .u64).C W (some ⟨b, 0, none⟩) k (xs.take k) ∧ (Kd.int .u64).C W A2 (xs.length - (k + 1)) (xs.drop (k + 1)) := by
  obtain ⟨b, c, rfl, hb, hlt, hcells⟩ := Kd.R_form h (by omega)
  have hcap : xs.length ≤ c := (Kd.R_reads' h).2.1
  have hm : xs.length ≤ 9223372036854775807 := (Kd.R_reads h).choose_spec.choose_spec.2.2.2.1
  obtain ⟨ii, hii, hz0, hz1, hz2⟩ := info_parts hi
  refine ⟨b, c, rfl, fun W => ?_, (if c = k + 1 then some ⟨b, 0, none⟩ else (some (⟨b, 0, none⟩ : Addr)).map (·.add ((k + 1) * 1))), c - (k + 1), fun W => ?_, fun W ok2 hR => ?_⟩
  · have := cut_to (P := Try.prog) 33 27 .i64 Try.underlying33 hii (some ⟨b, 0, none⟩) xs.length c (k : Int) (by omega) (by omega) hcap W
    simpa only [Int.toNat_natCast] using this
  · have := cut_from (P := Try.prog) 33 27 .i64 Try.underlying33 hii 1 hz1 (some ⟨b, 0, none⟩) xs.length c ((k : Int) + 1) (by omega) (by omega) W
    have e : ((k : Int) + 1).toNat = k + 1 := by omega
    rw [e] at this
    exact this
  · obtain ⟨A, c', he, hc1, hC⟩ := Kd.R_reads hR
    simp only [Value.slice.injEq, true_and] at he
    obtain ⟨he1, he2⟩ := he
    subst he1 he2
    have h1 := Kd.C_take (m := k) hC (by omega)
    have h2 := Kd.C_drop (m := k + 1) hC (by omega) hcap
    rw [List.length_take, Nat.min_eq_left (by omega)] at h1
    rw [List.length_drop] at h2
    exact ⟨h1, h2⟩
/-- Only new blocks: all is as it was, told by the new owners. -/
theorem fr_below {w w' : World} {base : Nat} (own : Nat → Nat) (j : Nat) (hb : Below w.heap.size w w') (hbase : base ≤ w.heap.size) : Fr base (tg (up own w.heap.size j) j) w w' := Fr.of_below hb hbase
theorem below_step {w w1 w2 : World} (h : Below w.heap.size w w1) (k : Below w1.heap.size w1 w2) : Below w.heap.size w w2 := h.trans (k.mono h.size)
end Go.Proofs.Ytjnpbikalamchaa.Tr
