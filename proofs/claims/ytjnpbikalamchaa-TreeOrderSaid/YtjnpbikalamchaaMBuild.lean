/- The tree of parents that the laws build; a row of bytes, opened. -/
import Derived.Test.YtjnpbikalamchaaMPSAll
import Derived.Test.YtjnpbikalamchaaRows
import Derived.Deep.SlicePairs
import Derived.ChangeArms
import Derived.OpenShut
import Derived.ChangeOld
set_option linter.unusedVariables false
set_option linter.unusedSimpArgs false
namespace Go.Proofs.Ytjnpbikalamchaa.Tr
open Go.ChangeShapes Go.WideShapes Go.RowKit Go.Maps Go.Proofs.YtjnpbikalamchaaW.PrintWords Go.Proofs.YtjnpbikalamchaaW.PrintLast Go.Proofs.YtjnpbikalamchaaW.PrintMore
theorem addT_len (l : T) (id p : Int) : (addT l id p).length ≤ l.length + 1 := by unfold addT; split <;> simp
theorem ord_le {l : T} (hw : WfT l) (id : Int) : (ord l id).length ≤ l.length + 1 := by
  unfold ord
  by_cases h : id ∈ ids l
  · rw [if_pos h]; exact Nat.le_trans (hw.ord_len _ _) (by omega)
  · rw [if_neg h]; simp
/-- A number of a row. -/
theorem ps_at {w : World} {base g : Nat} {lt : T} {v : Value} {ld : T} {rows : List (Value × List Int)} {bl : List Res} (h : PS w base g lt v ld rows bl) {u : Value} {xs : List Int} (hq : (u, xs) ∈ rows) {j : Nat} (hj : j < xs.length) :
    ∃ b c, u = .slice (some ⟨b, 0, none⟩) xs.length c ∧ w.cell? ⟨b, j, none⟩ = some (.int .u64 (xs.getD j 0)) := by
  obtain ⟨own, h⟩ := h
  obtain ⟨b, c, e, hc, _⟩ := row_at (h.r _ hq) hj
  exact ⟨b, c, e, hc⟩
theorem PS.rowC {w : World} {base g : Nat} {lt : T} {v : Value} {ld : T} {rows : List (Value × List Int)} {bl : List Res} (h : PS w base g lt v ld rows bl) {A : Option Addr} {n c : Nat} {xs : List Int} (hq : (.slice A n c, xs) ∈ rows) : Kd.C (Kd.int .u64) w A xs.length xs ∧ xs.length ≤ c ∧ n = xs.length := by
  obtain ⟨A1, c1, e, h1, h2⟩ := h.row hq
  injection e with e1 e2 e3
  subst e1 e2 e3
  exact ⟨h1, h2, rfl⟩
/-- A row of bytes. -/
def OrdC (w : World) (A : Option Addr) (xs : List Int) : Prop := 0 < xs.length → ∃ ad, A = some ad ∧ ∀ i, i < xs.length → w.cell? (ad.add i) = some (.int .u8 (xs.getD i 0))
theorem open_bytes {H : Type} {enc : TypeId × Value → H} {W : World} {base : Nat} {spare : Nat → Bool} {held : Bool} {a : Option Addr} {len cap : Nat} {d : DataW H} {p : List MemPlace}
    (h : DataW.Trod enc Try.prog W base spare held 47 (.slice a len cap) d p) : ∃ l : List Int, len = l.length ∧ l.length ≤ cap ∧ OrdC W a l ∧ ∀ x ∈ l, 0 ≤ x ∧ x ≤ 255 := by
  obtain ⟨fuel, hf⟩ := h
  rcases open_ints Try.underlying47 Try.underlying5 (by kernel_rfl) hf with ⟨hcs, _⟩ | ⟨x, l, c, zs, hcs, _, hl, hm, hz, _, hcell, hwz⟩
  · simp [Value.cells] at hcs
    obtain ⟨rfl, rfl, rfl⟩ := hcs
    exact ⟨[], rfl, Nat.le_refl _, fun h => absurd h (by simp), by simp⟩
  · simp [Value.cells] at hcs
    obtain ⟨rfl, rfl, rfl⟩ := hcs
    have hz2 : len ≤ zs.length := by rw [hz]; split <;> omega
    refine ⟨zs.take len, by simp; omega, by simp; omega, fun h0 => ⟨x, rfl, fun i hi => ?_⟩, fun y hy => bounds_u8 (hwz y (List.mem_of_mem_take hy))⟩
    have hi2 : i < len := by simp at hi; omega
    have := hcell i (by omega)
    rw [List.getD_eq_getElem?_getD, List.getElem?_take_of_lt hi2, ← List.getD_eq_getElem?_getD]
    exact this
/-- The thing i + 1 below p % (i + 1). -/
def bT (ps : List Int) (k : Nat) : T := (List.range k).map (fun i : Nat => ((i : Int) + 1, ps.getD i 0 % ((i : Int) + 1)))
theorem bT_succ (ps : List Int) (k : Nat) : bT ps (k + 1) = bT ps k ++ [((k : Int) + 1, ps.getD k 0 % ((k : Int) + 1))] := by unfold bT; rw [List.range_succ, List.map_append]; rfl
theorem bT_len (ps : List Int) (k : Nat) : (bT ps k).length = k := by simp [bT]
theorem bT_ids (ps : List Int) (k : Nat) : ids (bT ps k) = (List.range k).map (fun i : Nat => (i : Int) + 1) := by unfold ids bT; rw [List.map_map]; rfl
theorem mem_bT {ps : List Int} {k : Nat} {y : Int} : y ∈ ids (bT ps k) ↔ 1 ≤ y ∧ y ≤ k := by
  rw [bT_ids, List.mem_map]
  constructor
  · rintro ⟨i, hi, rfl⟩; have := List.mem_range.1 hi; omega
  · intro h; exact ⟨(y - 1).toNat, List.mem_range.2 (by omega), by omega⟩
theorem mod_range (p : Int) (k : Nat) : 0 ≤ p % ((k : Int) + 1) ∧ p % ((k : Int) + 1) ≤ k := by
  have h1 := Int.emod_nonneg p (show (k : Int) + 1 ≠ 0 by omega)
  have h2 := Int.emod_lt_of_pos p (show (0 : Int) < (k : Int) + 1 by omega)
  omega
theorem bT_add (ps : List Int) (k : Nat) : addOk (bT ps k) ((k : Int) + 1) (ps.getD k 0 % ((k : Int) + 1)) = true ∧ addT (bT ps k) ((k : Int) + 1) (ps.getD k 0 % ((k : Int) + 1)) = bT ps (k + 1) := by
  have hr := mod_range (ps.getD k 0) k
  have h : addOk (bT ps k) ((k : Int) + 1) (ps.getD k 0 % ((k : Int) + 1)) = true := by
    unfold addOk inT
    rw [decide_eq_true_eq, mem_bT, mem_bT]
    omega
  refine ⟨h, ?_⟩
  unfold addT
  rw [h, if_pos rfl, bT_succ]
theorem bT_wf (ps : List Int) (k : Nat) (hk : k ≤ 1000) : WfT (bT ps k) := by
  induction k with
  | zero => exact WfT.nil
  | succ k ih =>
    rw [bT_succ]
    have hr := mod_range (ps.getD k 0) k
    refine .snoc (ih (by omega)) (by unfold u64; omega) (by omega) (by rw [mem_bT]; omega) ?_
    unfold inT
    rw [mem_bT]
    omega
theorem bT_par {ps : List Int} {k : Nat} (hk : k ≤ 1000) {x : Int} (h1 : 1 ≤ x) (h2 : x ≤ k) : par (bT ps k) x = ps.getD (x - 1).toNat 0 % x := by
  refine (bT_wf ps k hk).par_of ?_
  unfold bT
  refine List.mem_map.2 ⟨(x - 1).toNat, List.mem_range.2 (by omega), ?_⟩
  rw [show (((x - 1).toNat : Nat) : Int) + 1 = x by omega]
theorem bT_par_lt {ps : List Int} {k : Nat} (hk : k ≤ 1000) {x : Int} (h1 : 1 ≤ x) (h2 : x ≤ k) : 0 ≤ par (bT ps k) x ∧ par (bT ps k) x < x := by
  rw [bT_par hk h1 h2]
  exact ⟨Int.emod_nonneg _ (by omega), Int.emod_lt_of_pos _ (by omega)⟩
section
variable {ops : Array Oper} {rest' : List Oper} {o : Oper} {a : Act} {Q : Exit → Act → World → Prop} {W : World} {base g : Nat} {lt : T} {v : Value} {ld : T} {rows : List (Value × List Int)} {rest : List Res}
/-- append(row, p). -/
theorem ps_push {j : Nat} {A : Option Addr} {c : Nat} {xs : List Int} (h : PS W base g lt v ld rows (.row j .u64 27 (.slice A xs.length c) xs :: rest)) (hj : ∀ q ∈ rest, q.tag ≠ j) (hgd : o.guard = none) (s x : Operand)
    (ho : o.op = .call { callee := .builtin .append, args := #[s, x], argTypes := #[33, 33] }) (p : Int) (hs : a.eval s = .slice A xs.length c) (hx : a.eval x = .slice (some ⟨W.heap.size, 0, none⟩) 1 1) (hl : xs.length ≤ 100000)
    (k : ∀ A1 c1 w1, PS w1 base g lt v ld rows (.row j .u64 27 (.slice A1 (xs ++ [p]).length c1) (xs ++ [p]) :: rest) → Below base W w1 → wpList Try.prog ops Q rest' (a.put o.dst (.slice A1 (xs ++ [p]).length c1)) w1) :
    wpList Try.prog ops Q (o :: rest') a (W.alloc (.cells #[.int .u64 p] 27)) := by
  obtain ⟨own, hR, hst⟩ := h.act rfl hj
  refine app_own (Kd.int .u64) base hgd s x 33 27 (.int .u64 0) 8 ho Try.underlying33 info27 rfl (show 0 < 1 by decide) (by decide) (.slice A xs.length c) xs p [.int .u64 p] own j hs hx rfl hR h.size (by omega) ?_
  intro v1 w1 hR1 hF
  obtain ⟨A1, c1, rfl⟩ := Kd.R_slice hR1
  exact k A1 c1 w1 (hst w1 _ _ hR1 hF) hF.b
/-- append(row, ys...). -/
theorem ps_pushes {j : Nat} {A : Option Addr} {c : Nat} {xs : List Int} (h : PS W base g lt v ld rows (.row j .u64 27 (.slice A xs.length c) xs :: rest)) (hj : ∀ q ∈ rest, q.tag ≠ j) (hgd : o.guard = none) (s x : Operand)
    (ho : o.op = .call { callee := .builtin .append, args := #[s, x], argTypes := #[33, 33] }) {ys : List Int} {A2 : Option Addr} {c2 : Nat} (hy : (.slice A2 ys.length c2, ys) ∈ rows) (hs : a.eval s = .slice A xs.length c) (hx : a.eval x = .slice A2 ys.length c2) (hl : xs.length ≤ 100000) (hly : ys.length ≤ 1000)
    (k : ∀ A1 c1 w1, PS w1 base g lt v ld rows (.row j .u64 27 (.slice A1 (xs ++ ys).length c1) (xs ++ ys) :: rest) → Below base W w1 → wpList Try.prog ops Q rest' (a.put o.dst (.slice A1 (xs ++ ys).length c1)) w1) :
    wpList Try.prog ops Q (o :: rest') a W := by
  have hC := h.row hy
  obtain ⟨A3, c3, e, hC, hc⟩ := hC
  injection e with e1 _ e3
  subst e1 e3
  obtain ⟨own, hR, hst⟩ := h.act rfl hj
  refine app_row_own .u64 base hgd s x 33 27 (.int .u64 0) 8 ho Try.underlying33 info27 rfl (by decide) (.slice A xs.length c) xs ys A2 ys.length c2 own j hs hx hR hC h.size (by omega) ?_
  intro v1 w1 hR1 hF
  obtain ⟨A1, c1, rfl⟩ := Kd.R_slice hR1
  exact k A1 c1 w1 (hst w1 _ _ hR1 hF) hF.b
end
end Go.Proofs.Ytjnpbikalamchaa.Tr
