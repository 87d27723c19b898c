/- A tree's methods, told by owners: the tree is owner i's, the row that is handed back owner j's. -/
import Derived.Test.YtjnpbikalamchaaMCut
set_option linter.unusedVariables false
set_option linter.unusedSimpArgs false
namespace Go.Proofs.Ytjnpbikalamchaa.Tr
open Go.RowKit Go.Maps Go.Proofs.YtjnpbikalamchaaW.PrintWords Go.Proofs.YtjnpbikalamchaaW.PrintLast Go.Proofs.YtjnpbikalamchaaW.PrintMore
/-- What a call that changes owner i's old blocks alone leaves. -/
def FrO (own : Nat → Nat) (i : Nat) (base : Nat) (w w' : World) : Prop := Fr base (fun k => tg own i k ∧ k < w.heap.size) w w'
theorem row_new {w w' : World} {base : Nat} {own : Nat → Nat} {j : Nat} {v : Value} {xs : List Int} (h : (Kd.int .u64).R 27 w' w.heap.size (fun k => v.ownBlock = some k) v xs) (hb : base ≤ w.heap.size) : (Kd.int .u64).R 27 w' base (tg (up own w.heap.size j) j) v xs :=
  Kd.R_lower (Kd.R_mono (Kd.R_bound h) (fun k hk => up_new hk.2.1)) hb
section
variable {α : Type} {d : Kd α} {e : Nat} {w w' : World} {base : Nat} {own : Nat → Nat} {i i' j : Nat} {v : Value} {xs : List α}
theorem R_passO (h : d.R e w base (tg own i') v xs) (hf : FrO own i base w w') (hij : i' ≠ i) : d.R e w' base (tg (up own w.heap.size j) i') v xs :=
  Kd.R_mono (Kd.R_step (Kd.R_bound h) (fun k hk hlt => hf.k k hlt (fun e => hij (hk.1.symm.trans e.1)))) (fun k hk => (up_old hk.2.2.1).trans hk.1)
theorem fr_passO {w0 : World} (h0 : Below w0.heap.size w0 w) (hb : w0.heap.size ≤ base) (hf : FrO own i base w w') : Below w0.heap.size w0 w' := h0.trans (hf.b.mono hb)
end
section
variable {w : World} {base : Nat} {own : Nat → Nat} {i j : Nat} {g : Nat} {l : T}
theorem TR_lim (h : TR w base (tg own i) g l) : TR w base (fun k => tg own i k ∧ k < w.heap.size) g l := h.mono (fun k hk ho => ⟨ho, hk⟩)
theorem TR_unlim {w' : World} (h : TR w' base (fun k => tg own i k ∧ k < w.heap.size) g l) : TR w' base (tg (up own w.heap.size j) i) g l := h.mono (fun k _ ho => (up_old ho.2).trans ho.1)
/-- Only new blocks came: the tree stays. -/
theorem TR_stay {w' : World} (h : TR w base (tg own i) g l) (hb : Below w.heap.size w w') : TR w' base (tg (up own w.heap.size j) i) g l := (TR_up h).below hb
theorem own_order (h : TR w base (tg own i) g l) {id : Int} (hu : u64 id) (hl : l.length ≤ 60) (hb : base ≤ w.heap.size) (j : Nat) :
    Calls Try.prog 24 #[.pointer (some ⟨g, 0, none⟩), .int .u64 id] w fun e w' => ∃ v, e = .returned v ∧ (Kd.int .u64).R 27 w' base (tg (up own w.heap.size j) j) v (ord l id) ∧ Below w.heap.size w w' :=
  (tr_order h hu hl).mono (fun e w' ⟨v, he, hR, hB⟩ => ⟨v, he, row_new hR hb, hB⟩)
theorem own_children (h : TR w base (tg own i) g l) {id : Int} (hu : u64 id) (hl : l.length ≤ 60) (hb : base ≤ w.heap.size) (j : Nat) :
    Calls Try.prog 22 #[.pointer (some ⟨g, 0, none⟩), .int .u64 id] w fun e w' => ∃ v, e = .returned v ∧ (Kd.int .u64).R 27 w' base (tg (up own w.heap.size j) j) v (kids l id) ∧ Below w.heap.size w w' :=
  (tr_children h hu hl).mono (fun e w' ⟨v, he, hR, hB⟩ => ⟨v, he, row_new hR hb, hB⟩)
theorem drop_noop {l : T} {id : Int} (h : id ∉ ids l) : dropT l id = l := by unfold dropT; rw [ord_none h]; simp [without]
theorem own_drop (h : TR w base (tg own i) g l) {id : Int} (hu : u64 id) (hl : l.length ≤ 60) (hb : base ≤ w.heap.size) (j : Nat) :
    Calls Try.prog 16 #[.pointer (some ⟨g, 0, none⟩), .int .u64 id] w fun e w' => ∃ v, e = .returned v ∧ (Kd.int .u64).R 27 w' base (tg (up own w.heap.size j) j) v (ord l id) ∧ TR w' base (tg (up own w.heap.size j) i) g (dropT l id) ∧ FrO own i base w w' := by
  by_cases c : id ∈ ids l
  · exact (drop_yes (TR_lim h) hl c hb).mono (fun e w' ⟨v, he, hR, hT, hF⟩ => ⟨v, he, row_new hR hb, TR_unlim hT, hF⟩)
  · refine (drop_none h hu hl c).mono (fun e w' ⟨he, hB⟩ => ⟨_, he, ?_, ?_, Fr.of_below hB hb⟩)
    · rw [ord_none c]; exact Kd.R_nil _ _ _ _ _
    · rw [drop_noop c]; exact TR_stay h hB
/-- What Cut hands back; the tree behind it. -/
def cutA (l : T) (id n : Int) : List Int := if inT l id ∧ 0 ≤ n then cutG l id n.toNat else []
def cutT (l : T) (id n : Int) : T := without l (cutA l id n)
theorem own_cut (h : TR w base (tg own i) g l) {id n : Int} (hu : u64 id) (hn : -9223372036854775808 ≤ n ∧ n ≤ 9223372036854775807) (hl : l.length ≤ 60) (hb : base ≤ w.heap.size) (j : Nat) :
    Calls Try.prog 14 #[.pointer (some ⟨g, 0, none⟩), .int .u64 id, .int .i64 n] w fun e w' => ∃ v, e = .returned v ∧ (Kd.int .u64).R 27 w' base (tg (up own w.heap.size j) j) v (cutA l id n) ∧ TR w' base (tg (up own w.heap.size j) i) g (cutT l id n) ∧ FrO own i base w w' := by
  by_cases c : inT l id ∧ 0 ≤ n
  · unfold cutT cutA
    rw [if_pos c]
    obtain ⟨q, rfl⟩ : ∃ q : Nat, n = q := ⟨n.toNat, by have := c.2; omega⟩
    rw [Int.toNat_natCast]
    exact (cut_yes (TR_lim h) q hu c.1 hl hb (by omega)).mono (fun e w' ⟨v, he, hR, hT, hF⟩ => ⟨v, he, row_new hR hb, TR_unlim hT, hF⟩)
  · unfold cutT cutA
    rw [if_neg c]
    have key : ∀ e w', (e = Ending.returned (.slice none 0 0) ∧ w' = w) → ∃ v, e = .returned v ∧ (Kd.int .u64).R 27 w' base (tg (up own w.heap.size j) j) v [] ∧ TR w' base (tg (up own w.heap.size j) i) g (without l []) ∧ FrO own i base w w' := by
      rintro e w' ⟨rfl, rfl⟩
      exact ⟨_, rfl, Kd.R_nil _ _ _ _ _, by rw [show without l [] = l by simp [without]]; exact TR_up h, Fr.refl _ _ _⟩
    by_cases c1 : inT l id
    · exact (cut_neg h hu c1 (by by_cases c2 : 0 ≤ n; exact absurd ⟨c1, c2⟩ c; omega)).mono key
    · exact (cut_no h hu c1).mono key
end
end Go.Proofs.Ytjnpbikalamchaa.Tr
