/- The tree, the document's list and rows of numbers beside them, each of another owner: what each call does to them. -/
import Derived.Test.YtjnpbikalamchaaMDocAll
set_option linter.unusedVariables false
set_option linter.unusedSimpArgs false
namespace Go.Proofs.Ytjnpbikalamchaa.Tr
open Go.RowKit Go.Maps Go.Proofs.YtjnpbikalamchaaW.PrintWords Go.Proofs.YtjnpbikalamchaaW.PrintLast Go.Proofs.YtjnpbikalamchaaW.PrintMore
open Go.Proofs.Ytjnpbikalamchaa.Rf
/-- What stands beside the tree: a plain block, or a row that is written to. -/
inductive Res
  | blk (b : Nat) (o : Obj)
  | row (j : Nat) (k : IntKind) (e : Nat) (v : Value) (xs : List Int)
def Res.tag : Res → Nat
  | .blk _ _ => 9
  | .row j _ _ _ _ => j
def Res.ok (own : Nat → Nat) (w : World) (base : Nat) : Res → Prop
  | .blk b o => own b = 9 ∧ w.heap[b]? = some o
  | .row j k e v xs => 3 ≤ j ∧ (Kd.int k).R e w base (tg own j) v xs
/-- The tree is owner 0's; the document's list and all rows are owner 2's: nobody writes to these. -/
structure PO (own : Nat → Nat) (w : World) (base g : Nat) (lt : T) (v : Value) (ld : T) (rows : List (Value × List Int)) (bl : List Res) : Prop where
  bs : base ≤ w.heap.size
  t : TR w base (tg own 0) g lt
  d : k59.R 59 w base (tg own 2) v (toS ld)
  r : ∀ q ∈ rows, (Kd.int .u64).R 27 w base (tg own 2) q.1 q.2
  b : ∀ q ∈ bl, q.ok own w base
def PS (w : World) (base g : Nat) (lt : T) (v : Value) (ld : T) (rows : List (Value × List Int)) (bl : List Res) : Prop := ∃ own, PO own w base g lt v ld rows bl
section
variable {w w' : World} {base g : Nat} {lt : T} {v : Value} {ld : T} {rows : List (Value × List Int)} {bl : List Res}
theorem PS.size (h : PS w base g lt v ld rows bl) : base ≤ w.heap.size := h.elim fun _ h => h.bs
theorem PS.wft (h : PS w base g lt v ld rows bl) : WfT lt := h.elim fun _ h => h.t.1
theorem bl_stay {own : Nat → Nat} {j : Nat} {q : Res} (h : q.ok own w base) (hb : Below w.heap.size w w') : q.ok (up own w.heap.size j) w' base := by
  cases q with
  | blk b o =>
    have hl := (Array.getElem?_eq_some_iff.1 h.2).1
    exact ⟨(up_old hl).trans h.1, (hb.block _ hl).trans h.2⟩
  | row i k e v xs => exact ⟨h.1, R_stay h.2 hb⟩
theorem bl_pass {own : Nat → Nat} {j : Nat} {q : Res} (h : q.ok own w base) (hF : FrO own 0 base w w') : q.ok (up own w.heap.size j) w' base := by
  cases q with
  | blk b o =>
    have hl := (Array.getElem?_eq_some_iff.1 h.2).1
    exact ⟨(up_old hl).trans h.1, (hF.k b hl (fun e => by have h1 := e.1; unfold tg at h1; rw [h.1] at h1; exact absurd h1 (by decide))).trans h.2⟩
  | row i k e v xs => exact ⟨h.1, R_passO h.2 hF (by have := h.1; omega)⟩
/-- Another row's owner acts. -/
theorem bl_other {own : Nat → Nat} {j : Nat} {q : Res} (h : q.ok own w base) (hF : Fr base (tg (up own w.heap.size j) j) w w') (hj : q.tag ≠ j) : q.ok (up own w.heap.size j) w' base := by
  cases q with
  | blk b o =>
    have hl := (Array.getElem?_eq_some_iff.1 h.2).1
    exact ⟨(up_old hl).trans h.1, (hF.k b hl (fun e => hj (by unfold tg at e; rw [up_old hl, h.1] at e; exact e))).trans h.2⟩
  | row i k e v xs => exact ⟨h.1, R_pass h.2 hF hj⟩
theorem PO.pass {own : Nat → Nat} (h : PO own w base g lt v ld rows bl) (j : Nat) (hb : Below w.heap.size w w') : PO (up own w.heap.size j) w' base g lt v ld rows bl :=
  ⟨Nat.le_trans h.bs hb.size, TR_stay h.t hb, R_stay h.d hb, fun q hq => R_stay (h.r q hq) hb, fun q hq => bl_stay (h.b q hq) hb⟩
theorem PS.below (h : PS w base g lt v ld rows bl) (hb : Below w.heap.size w w') : PS w' base g lt v ld rows bl := h.elim fun own h => ⟨_, h.pass 9 hb⟩
theorem PS.sub {rows' : List (Value × List Int)} (h : PS w base g lt v ld rows bl) (hs : ∀ q ∈ rows', q ∈ rows) : PS w base g lt v ld rows' bl := h.elim fun own h => ⟨own, h.bs, h.t, h.d, fun q hq => h.r q (hs q hq), h.b⟩
theorem PS.row (h : PS w base g lt v ld rows bl) {u : Value} {xs : List Int} (hq : (u, xs) ∈ rows) : ∃ A c, u = .slice A xs.length c ∧ Kd.C (Kd.int .u64) w A xs.length xs ∧ xs.length ≤ c := by
  obtain ⟨own, h⟩ := h
  have hr := h.r _ hq
  obtain ⟨A, c, e⟩ := Kd.R_slice hr
  dsimp only at e hr
  subst e
  exact ⟨A, c, rfl, (Kd.R_reads' hr).2.2, (Kd.R_reads' hr).2.1⟩
theorem PS.doc (h : PS w base g lt v ld rows bl) : ∃ A c, v = .slice A (toS ld).length c ∧ Kd.C k59 w A (toS ld).length (toS ld) ∧ (toS ld).length ≤ c := by
  obtain ⟨own, h⟩ := h
  have hr := h.d
  obtain ⟨A, c, e⟩ := Kd.R_slice hr
  subst e
  exact ⟨A, c, rfl, (Kd.R_reads' hr).2.2, (Kd.R_reads' hr).2.1⟩
theorem PO.newrow {own : Nat → Nat} (h : PO own w base g lt v ld rows bl) {u : Value} {xs : List Int} (hb : Below w.heap.size w w') (hR : (Kd.int .u64).R 27 w' w.heap.size (fun k => u.ownBlock = some k) u xs) : PS w' base g lt v ld ((u, xs) :: rows) bl :=
  ⟨_, Nat.le_trans h.bs hb.size, TR_stay h.t hb, R_stay h.d hb, fun q hq => by
    rcases List.mem_cons.1 hq with rfl | hq
    · exact row_new hR h.bs
    · exact R_stay (h.r q hq) hb, fun q hq => bl_stay (h.b q hq) hb⟩
theorem PS.newrow (h : PS w base g lt v ld rows bl) {u : Value} {xs : List Int} (hb : Below w.heap.size w w') (hR : (Kd.int .u64).R 27 w' w.heap.size (fun k => u.ownBlock = some k) u xs) : PS w' base g lt v ld ((u, xs) :: rows) bl := h.elim fun _ h => h.newrow hb hR
theorem PS.newdoc (h : PS w base g lt v ld rows bl) {v1 : Value} {l1 : T} (hb : Below w.heap.size w w') (hR : k59.R 59 w' w.heap.size (fun _ => True) v1 (toS l1)) : PS w' base g lt v1 l1 rows bl := by
  obtain ⟨own, h⟩ := h
  exact ⟨up own w.heap.size 2, Nat.le_trans h.bs hb.size, TR_stay h.t hb, Kd.R_lower (Kd.R_mono (Kd.R_bound hR) (fun k hk => up_new hk.2.1)) h.bs, fun q hq => R_stay (h.r q hq) hb, fun q hq => bl_stay (h.b q hq) hb⟩
/-- A new plain block. -/
theorem PS.alloc (h : PS w base g lt v ld rows bl) (o : Obj) : PS (w.alloc o) base g lt v ld rows (.blk w.heap.size o :: bl) := by
  obtain ⟨own, h⟩ := h
  have hb := below_alloc (Below.refl w.heap.size w) o
  have k := h.pass 9 hb
  exact ⟨_, k.bs, k.t, k.d, k.r, fun q hq => by
    rcases List.mem_cons.1 hq with rfl | hq
    · exact ⟨up_new (Nat.le_refl _), heap_alloc_new w o⟩
    · exact k.b q hq⟩
theorem PS.blk (h : PS w base g lt v ld rows bl) {b : Nat} {o : Obj} (hb : .blk b o ∈ bl) : w.heap[b]? = some o := h.elim fun _ h => (h.b _ hb).2
theorem PS.wrow (h : PS w base g lt v ld rows bl) {j : Nat} {k : IntKind} {e : Nat} {u : Value} {xs : List Int} (hb : .row j k e u xs ∈ bl) : ∃ A c, u = .slice A xs.length c ∧ Kd.C (Kd.int k) w A xs.length xs ∧ xs.length ≤ c := by
  obtain ⟨own, h⟩ := h
  have hr := (h.b _ hb).2
  obtain ⟨A, c, e⟩ := Kd.R_slice hr
  subst e
  exact ⟨A, c, rfl, (Kd.R_reads' hr).2.2, (Kd.R_reads' hr).2.1⟩
/-- A new empty row. -/
theorem PS.nilrow (h : PS w base g lt v ld rows bl) (j : Nat) (k : IntKind) (e : Nat) (hj : 3 ≤ j) : PS w base g lt v ld rows (.row j k e (.slice none 0 0) [] :: bl) := by
  obtain ⟨own, h⟩ := h
  exact ⟨own, h.bs, h.t, h.d, h.r, fun q hq => by
    rcases List.mem_cons.1 hq with rfl | hq
    · exact ⟨hj, Kd.R_nil _ _ _ _ _⟩
    · exact h.b q hq⟩
/-- A row that is written to: its owner acts. -/
theorem PS.act (h : PS w base g lt v ld rows bl) {j : Nat} {k : IntKind} {e : Nat} {u : Value} {xs : List Int} {rest : List Res} (hb : bl = .row j k e u xs :: rest) (hj : ∀ q ∈ rest, q.tag ≠ j) :
    ∃ own, (Kd.int k).R e w base (tg own j) u xs ∧ ∀ w1 u1 ys, (Kd.int k).R e w1 base (tg (up own w.heap.size j) j) u1 ys → Fr base (tg (up own w.heap.size j) j) w w1 → PS w1 base g lt v ld rows (.row j k e u1 ys :: rest) := by
  subst hb
  obtain ⟨own, h⟩ := h
  have hm := h.b _ List.mem_cons_self
  refine ⟨own, hm.2, fun w1 u1 ys hR hF => ⟨up own w.heap.size j, Nat.le_trans h.bs hF.b.size, TR_pass h.t hF (by have := hm.1; omega), R_pass h.d hF (by have := hm.1; omega), fun q hq => R_pass (h.r q hq) hF (by have := hm.1; omega), fun q hq => ?_⟩⟩
  rcases List.mem_cons.1 hq with rfl | hq
  · exact ⟨hm.1, hR⟩
  · exact bl_other (h.b q (List.mem_cons_of_mem _ hq)) hF (hj q hq)
theorem PS.subl {bl' : List Res} (h : PS w base g lt v ld rows bl) (hs : ∀ q ∈ bl', q ∈ bl) : PS w base g lt v ld rows bl' := h.elim fun own h => ⟨own, h.bs, h.t, h.d, h.r, fun q hq => h.b q (hs q hq)⟩
theorem PS.nobl (h : PS w base g lt v ld rows bl) : PS w base g lt v ld rows [] := h.elim fun own h => ⟨own, h.bs, h.t, h.d, h.r, fun q hq => by simp at hq⟩
theorem fro_of {own : Nat → Nat} {i : Nat} (h : Fr base (tg (up own w.heap.size i) i) w w') : FrO own i base w w' := ⟨h.b, fun k hk hn => h.k k hk (fun e => hn ⟨by unfold tg at e ⊢; rwa [up_old hk] at e, hk⟩)⟩
/-- The tree's own act. -/
theorem PO.act {own : Nat → Nat} (h : PO own w base g lt v ld rows bl) {lt' : T} (j : Nat) (hT : TR w' base (tg (up own w.heap.size j) 0) g lt') (hF : FrO own 0 base w w') : PO (up own w.heap.size j) w' base g lt' v ld rows bl :=
  ⟨Nat.le_trans h.bs hF.b.size, hT, R_passO h.d hF (by decide), fun q hq => R_passO (h.r q hq) hF (by decide), fun q hq => bl_pass (h.b q hq) hF⟩
theorem ps_add (h : PS w base g lt v ld rows bl) {id p : Int} (hu : u64 id) (hp : u64 p) (hl : lt.length ≤ 1000) :
    Calls Try.prog 11 #[.pointer (some ⟨g, 0, none⟩), .int .u64 id, .int .u64 p] w fun e w' => e = .returned (.bool (addOk lt id p)) ∧ PS w' base g (addT lt id p) v ld rows bl ∧ Below base w w' := by
  obtain ⟨own, h⟩ := h
  refine (tr_add (TR_up (j := 0) h.t) hu hp h.bs (up_fresh own _ 0) hl).mono ?_
  rintro e w1 ⟨rfl, hT, hF⟩
  exact ⟨rfl, ⟨_, h.act 0 hT (fro_of hF)⟩, hF.b⟩
theorem ps_drop (h : PS w base g lt v ld rows bl) {id : Int} (hu : u64 id) (hl : lt.length ≤ 60) :
    Calls Try.prog 16 #[.pointer (some ⟨g, 0, none⟩), .int .u64 id] w fun e w' => ∃ u, e = .returned u ∧ PS w' base g (dropT lt id) v ld ((u, ord lt id) :: rows) bl ∧ Below base w w' := by
  obtain ⟨own, h⟩ := h
  refine (own_drop h.t hu hl h.bs 2).mono ?_
  rintro e w1 ⟨u, rfl, hR, hT, hF⟩
  have k := h.act 2 hT hF
  refine ⟨u, rfl, ⟨up own w.heap.size 2, ?_⟩, hF.b⟩
  exact ⟨k.bs, k.t, k.d, fun q hq => by
    rcases List.mem_cons.1 hq with rfl | hq
    · exact hR
    · exact k.r q hq, k.b⟩
theorem ps_cut (h : PS w base g lt v ld rows bl) {id n : Int} (hu : u64 id) (hn : -9223372036854775808 ≤ n ∧ n ≤ 9223372036854775807) (hl : lt.length ≤ 60) :
    Calls Try.prog 14 #[.pointer (some ⟨g, 0, none⟩), .int .u64 id, .int .i64 n] w fun e w' => ∃ u, e = .returned u ∧ PS w' base g (cutT lt id n) v ld ((u, cutA lt id n) :: rows) bl ∧ Below base w w' := by
  obtain ⟨own, h⟩ := h
  refine (own_cut h.t hu hn hl h.bs 2).mono ?_
  rintro e w1 ⟨u, rfl, hR, hT, hF⟩
  have k := h.act 2 hT hF
  refine ⟨u, rfl, ⟨up own w.heap.size 2, ?_⟩, hF.b⟩
  exact ⟨k.bs, k.t, k.d, fun q hq => by
    rcases List.mem_cons.1 hq with rfl | hq
    · exact hR
    · exact k.r q hq, k.b⟩
theorem ps_children (h : PS w base g lt v ld rows bl) {id : Int} (hu : u64 id) (hl : lt.length ≤ 60) :
    Calls Try.prog 22 #[.pointer (some ⟨g, 0, none⟩), .int .u64 id] w fun e w' => ∃ u, e = .returned u ∧ PS w' base g lt v ld ((u, kids lt id) :: rows) bl ∧ Below base w w' := by
  obtain ⟨own, h⟩ := h
  refine (tr_children h.t hu hl).mono ?_
  rintro e w1 ⟨u, rfl, hR, hB⟩
  exact ⟨u, rfl, h.newrow hB hR, hB.mono h.bs⟩
theorem ps_order (h : PS w base g lt v ld rows bl) {id : Int} (hu : u64 id) (hl : lt.length ≤ 60) :
    Calls Try.prog 24 #[.pointer (some ⟨g, 0, none⟩), .int .u64 id] w fun e w' => ∃ u, e = .returned u ∧ PS w' base g lt v ld ((u, ord lt id) :: rows) bl ∧ Below base w w' := by
  obtain ⟨own, h⟩ := h
  refine (tr_order h.t hu hl).mono ?_
  rintro e w1 ⟨u, rfl, hR, hB⟩
  exact ⟨u, rfl, h.newrow hB hR, hB.mono h.bs⟩
theorem ps_has (h : PS w base g lt v ld rows bl) {id : Int} (hu : u64 id) :
    Calls Try.prog 18 #[.pointer (some ⟨g, 0, none⟩), .int .u64 id] w fun e w' => e = .returned (.bool (decide (id ≠ 0 ∧ id ∈ ids lt))) ∧ w' = w := by
  obtain ⟨own, h⟩ := h
  obtain ⟨hw, m, nb, tag, D, hT⟩ := h.t
  refine (has_calls hT hu).mono ?_
  rintro e w1 ⟨rfl, rfl⟩
  refine ⟨?_, rfl⟩
  congr 2
  rw [← Bool.decide_and]
  simp only [decide_eq_decide, inT]
  grind
theorem ps_parent (h : PS w base g lt v ld rows bl) {id : Int} (hu : u64 id) :
    Calls Try.prog 20 #[.pointer (some ⟨g, 0, none⟩), .int .u64 id] w fun e w' => e = .returned (.int .u64 (par lt id)) ∧ w' = w := by
  obtain ⟨own, h⟩ := h
  obtain ⟨hw, m, nb, tag, D, hT⟩ := h.t
  refine (parent_calls hT hu).mono ?_
  rintro e w1 ⟨rfl, rfl⟩
  refine ⟨?_, rfl⟩
  by_cases c : inT lt id
  · rw [decide_eq_true c]; rfl
  · rw [decide_eq_false c, par_none (fun e => c (.inr e))]; rfl
theorem ps_len (h : PS w base g lt v ld rows bl) (hl : lt.length ≤ 1000) :
    Calls Try.prog 17 #[.pointer (some ⟨g, 0, none⟩)] w fun e w' => e = .returned (.int .i64 (lt.length : Int)) ∧ w' = w := by
  obtain ⟨own, h⟩ := h
  obtain ⟨hw, m, nb, tag, D, hT⟩ := h.t
  refine (len_calls hT (by omega)).mono ?_
  rintro e w1 ⟨rfl, rfl⟩
  exact ⟨by congr 2; omega, rfl⟩
theorem same_c {W : World} {A A1 : Option Addr} {c c1 : Nat} {xs ys : List Int} (h : Kd.C (Kd.int .u64) W A xs.length xs) (hc : xs.length ≤ c) (h1 : Kd.C (Kd.int .u64) W A1 ys.length ys) (hc1 : ys.length ≤ c1) (hl : xs.length ≤ 1000) :
    Calls Try.prog 13 #[.slice A xs.length c, .slice A1 ys.length c1] W fun e w' => e = .returned (.bool (decide (xs = ys))) ∧ Below W.heap.size W w' :=
  (steadingref13_Same.calls 1001 A c xs A1 c1 ys _ W h hc h1 hc1 (same_f xs ys hl)).mono (fun e w' ⟨he, hd⟩ => ⟨he, hd.below⟩)
end
end Go.Proofs.Ytjnpbikalamchaa.Tr
/- The document's example (awake): it holds. -/
set_option linter.unusedVariables false
set_option linter.unusedSimpArgs false
namespace Go.Proofs.Ytjnpbikalamchaa.Tr
open Go.RowKit Go.Maps Go.Proofs.YtjnpbikalamchaaW.PrintWords Go.Proofs.YtjnpbikalamchaaW.PrintLast Go.Proofs.YtjnpbikalamchaaW.PrintMore
open Go.Proofs.Ytjnpbikalamchaa.Rf
attribute [local go_sem] max2_int min2_int
theorem PS.start {w : World} {base g : Nat} (hb : base ≤ w.heap.size) (h : TR w base (tg (fun _ => 0) 0) g []) : PS w base g [] (.slice none 0 0) [] [] [] :=
  ⟨fun _ => 0, hb, h, Kd.R_nil _ _ _ _ _, fun q hq => by simp at hq, fun q hq => by simp at hq⟩
theorem ps_new (w : World) (base : Nat) (hb : base ≤ w.heap.size) : Calls Try.prog 9 #[] w fun e w' => ∃ g, e = .returned (.pointer (some ⟨g, 0, none⟩)) ∧ PS w' base g [] (.slice none 0 0) [] [] [] ∧ Below base w w' :=
  (new_calls w base (tg (fun _ => 0) 0) hb (fun _ _ => rfl)).mono (fun e w' ⟨g, he, hT, hB⟩ => ⟨g, he, PS.start (Nat.le_trans hb hB.size) hT, hB.mono hb⟩)
/-- A row of a literal. -/
theorem lit_C {w : World} {b : Nat} {xs : List Int} (h : w.heap[b]? = some (.cells (xs.map (Value.int .u64)).toArray 27 (0, 0))) (hl : xs.length ≤ 1000) : Kd.C (Kd.int .u64) w (some ⟨b, 0, none⟩) xs.length xs := by
  refine Kd.C_of_reads (d := (0 : Int)) (h1 := fun _ => rfl) ⟨rfl, by omega, fun hpos => ⟨_, rfl, ?_⟩⟩
  intro j hj
  have : (List.map (Value.int IntKind.u64) xs)[j]? = some (Value.int IntKind.u64 (xs.getD j 0)) := by
    rw [List.getElem?_map, List.getElem?_eq_getElem hj, List.getD_eq_getElem?_getD, List.getElem?_eq_getElem hj]; rfl
  have ha : (⟨b, 0, none⟩ : Addr).add j = ⟨b, j, none⟩ := by simp only [Addr.add]; split <;> simp_all
  rw [ha]
  simp only [World.cell?, h]
  simpa using this
def l4 : T := [(1, 0), (2, 1), (3, 1), (4, 2)]
def l3 : T := [(1, 0), (2, 1), (4, 2)]
set_option maxRecDepth 4000 in
set_option maxHeartbeats 2000000 in
theorem awake_calls (w : World) : Calls Try.prog 8 #[] w fun e w' => e = .returned (.bool true) ∧ Below w.heap.size w w' := by
  have E1 := Aside0.mk (show addT [] 1 0 = [(1, 0)] ∧ addOk [] 1 0 = true by decide)
  have E2 := Aside0.mk (show addT [(1, 0)] 2 1 = [(1, 0), (2, 1)] ∧ addOk [(1, 0)] 2 1 = true by decide)
  have E3 := Aside0.mk (show addT [(1, 0), (2, 1)] 3 1 = [(1, 0), (2, 1), (3, 1)] ∧ addOk [(1, 0), (2, 1)] 3 1 = true by decide)
  have E4 := Aside0.mk (show addT [(1, 0), (2, 1), (3, 1)] 4 2 = l4 ∧ addOk [(1, 0), (2, 1), (3, 1)] 4 2 = true by decide)
  have E5 := Aside0.mk (show ord l4 1 = [3, 4, 2, 1] by decide)
  have E6 := Aside0.mk (show cutA l4 1 1 = [3] ∧ cutT l4 1 1 = l3 by decide)
  have E7 := Aside0.mk (show par l3 4 = 2 by decide)
  have E8 := Aside0.mk (show decide ((4 : Int) ≠ 0 ∧ (4 : Int) ∈ ids l3) = true by decide)
  obtain ⟨base, hbs⟩ : ∃ b, b = w.heap.size := ⟨_, rfl⟩
  have HBA := Aside0.mk (Nat.le_of_eq hbs)
  have HBE := Aside0.mk hbs
  clear hbs
  go_enter Try.func8, Try.ntmps8
  go_wp2_with fail
  refine (ps_new w base HBA.out).mono ?_
  rintro e w0 ⟨g, rfl, hP, hb⟩
  have H0 := Aside0.mk hP
  have B0 := Aside0.mk hb
  clear hP hb
  go_wp2_with fail
  refine (ps_add H0.out (id := 1) (p := 0) (by unfold u64; omega) (by unfold u64; omega) (by decide)).mono ?_
  rw [E1.out.1, E1.out.2]
  rintro e w1 ⟨rfl, hP, hb⟩
  have H1 := Aside0.mk hP
  have B1 := Aside0.mk (B0.out.trans hb)
  clear hP hb
  go_wp2_with fail
  refine (ps_add H1.out (id := 2) (p := 1) (by unfold u64; omega) (by unfold u64; omega) (by decide)).mono ?_
  rw [E2.out.1, E2.out.2]
  rintro e w2 ⟨rfl, hP, hb⟩
  have H2 := Aside0.mk hP
  have B2 := Aside0.mk (B1.out.trans hb)
  clear hP hb
  go_wp2_with fail
  refine (ps_add H2.out (id := 3) (p := 1) (by unfold u64; omega) (by unfold u64; omega) (by decide)).mono ?_
  rw [E3.out.1, E3.out.2]
  rintro e w3 ⟨rfl, hP, hb⟩
  have H3 := Aside0.mk hP
  have B3 := Aside0.mk (B2.out.trans hb)
  clear hP hb
  go_wp2_with fail
  refine (ps_add H3.out (id := 4) (p := 2) (by unfold u64; omega) (by unfold u64; omega) (by decide)).mono ?_
  rw [E4.out.1, E4.out.2]
  rintro e w4 ⟨rfl, hP, hb⟩
  have H4 := Aside0.mk hP
  have B4 := Aside0.mk (B3.out.trans hb)
  clear hP hb
  go_wp2_with fail
  refine (ps_order H4.out (id := 1) (by unfold u64; omega) (by decide)).mono ?_
  rw [E5.out]
  rintro e w5 ⟨v5, rfl, hP, hb⟩
  obtain ⟨A5, c5, rfl, hC5, hc5⟩ := hP.row List.mem_cons_self
  have H5 := Aside0.mk hP
  have B5 := Aside0.mk (B4.out.trans hb)
  have C5 := Aside0.mk hC5
  have hc5' : 4 ≤ c5 := hc5
  clear hP hb hC5
  go_wp2_with fail
  have hb := below_alloc (Below.refl w5.heap.size w5) (.cells #[.int .u64 3, .int .u64 4, .int .u64 2, .int .u64 1] 27)
  refine (same_c (xs := [3, 4, 2, 1]) (ys := [3, 4, 2, 1]) (Kd.C_below C5.out hb) hc5 (lit_C (xs := [3, 4, 2, 1]) (heap_alloc_new w5 (.cells #[.int .u64 3, .int .u64 4, .int .u64 2, .int .u64 1] 27)) (by decide)) (by decide) (by decide)).mono ?_
  rintro e w6 ⟨rfl, hb6⟩
  have H6 := Aside0.mk (H5.out.below (hb.trans (hb6.mono hb.size)))
  have B6 := Aside0.mk (B5.out.trans ((hb.trans (hb6.mono hb.size)).mono H5.out.size))
  clear hb hb6
  go_wp2_with fail
  refine (ps_cut H6.out (id := 1) (n := 1) (by unfold u64; omega) (by omega) (by decide)).mono ?_
  rw [E6.out.1, E6.out.2]
  rintro e w7 ⟨v7, rfl, hP, hb⟩
  obtain ⟨A7, c7, rfl, hC7, hc7⟩ := hP.row List.mem_cons_self
  have H7 := Aside0.mk hP
  have B7 := Aside0.mk (B6.out.trans hb)
  have C7 := Aside0.mk hC7
  have hc7' : 1 ≤ c7 := hc7
  clear hP hb hC7
  go_wp2_with fail
  have hb := below_alloc (Below.refl w7.heap.size w7) (.cells #[.int .u64 3] 27)
  refine (same_c (xs := [3]) (ys := [3]) (Kd.C_below C7.out hb) hc7 (lit_C (xs := [3]) (heap_alloc_new w7 (.cells #[.int .u64 3] 27)) (by decide)) (by decide) (by decide)).mono ?_
  rintro e w8 ⟨rfl, hb8⟩
  have H8 := Aside0.mk (H7.out.below (hb.trans (hb8.mono hb.size)))
  have B8 := Aside0.mk (B7.out.trans ((hb.trans (hb8.mono hb.size)).mono H7.out.size))
  clear hb hb8
  go_wp2_with fail
  refine (ps_len H8.out (by decide)).mono ?_
  rintro e w9 ⟨rfl, rfl⟩
  go_wp2_with fail
  refine (ps_parent H8.out (id := 4) (by unfold u64; omega)).mono ?_
  rw [E7.out]
  rintro e w9 ⟨rfl, rfl⟩
  go_wp2_with fail
  refine (ps_has H8.out (id := 4) (by unfold u64; omega)).mono ?_
  rw [E8.out]
  rintro e w9 ⟨rfl, rfl⟩
  go_wp2_with fail
  go_ret
  exact ⟨rfl, HBE.out ▸ B8.out⟩
end Go.Proofs.Ytjnpbikalamchaa.Tr
/- What the document's calls do to the tree, the document's list and the rows. -/
set_option linter.unusedVariables false
set_option linter.unusedSimpArgs false
namespace Go.Proofs.Ytjnpbikalamchaa.Tr
open Go.RowKit Go.Maps Go.Proofs.YtjnpbikalamchaaW.PrintWords Go.Proofs.YtjnpbikalamchaaW.PrintLast Go.Proofs.YtjnpbikalamchaaW.PrintMore
open Go.Proofs.Ytjnpbikalamchaa.Rf
section
variable {w w' : World} {base g : Nat} {lt : T} {v : Value} {ld : T} {rows : List (Value × List Int)} {bl : List Res}
theorem PS.newdoc2 (h : PS w base g lt v ld rows bl) {v1 v2 : Value} {l1 : T} {xs : List Int} (hb : Below w.heap.size w w') (hR : k59.R 59 w' w.heap.size (fun _ => True) v1 (toS l1)) (hR2 : (Kd.int .u64).R 27 w' w.heap.size (fun k => v2.ownBlock = some k) v2 xs) : PS w' base g lt v1 l1 ((v2, xs) :: rows) bl := by
  obtain ⟨own, h⟩ := h
  exact ⟨up own w.heap.size 2, Nat.le_trans h.bs hb.size, TR_stay h.t hb, Kd.R_lower (Kd.R_mono (Kd.R_bound hR) (fun k hk => up_new hk.2.1)) h.bs, fun q hq => by
    rcases List.mem_cons.1 hq with rfl | hq
    · exact row_new hR2 h.bs
    · exact R_stay (h.r q hq) hb, fun q hq => bl_stay (h.b q hq) hb⟩
theorem pd_add (h : PS w base g lt v ld rows bl) (id p : Int) (hl : ld.length ≤ 60) :
    Calls Try.prog 10 #[v, .int .u64 id, .int .u64 p] w fun e w' => ∃ v1, e = .returned (.tuple #[v1, .bool (addOk ld id p)]) ∧ PS w' base g lt v1 (addT ld id p) rows bl ∧ Below base w w' := by
  obtain ⟨A, c, rfl, hC, hc⟩ := h.doc
  have no : addOk ld id p = false → ∀ e w', (e = Ending.returned (.tuple #[.slice A (toS ld).length c, .bool false]) ∧ Below w.heap.size w w') → ∃ v1, e = .returned (.tuple #[v1, .bool (addOk ld id p)]) ∧ PS w' base g lt v1 (addT ld id p) rows bl ∧ Below base w w' := by
    rintro ho e w1 ⟨rfl, hb⟩
    unfold addT
    rw [ho]
    exact ⟨_, rfl, h.below hb, hb.mono h.size⟩
  have yes : addOk ld id p = true → ∀ e w', (∃ v, e = Ending.returned (.tuple #[v, .bool true]) ∧ Kd.R k59 59 w' w.heap.size (fun _ => True) v (toS (ld ++ [(id, p)])) ∧ Below w.heap.size w w') → ∃ v1, e = .returned (.tuple #[v1, .bool (addOk ld id p)]) ∧ PS w' base g lt v1 (addT ld id p) rows bl ∧ Below base w w' := by
    rintro ho e w1 ⟨v1, rfl, hR, hb⟩
    unfold addT
    rw [ho, if_pos rfl]
    exact ⟨_, rfl, h.newdoc hb hR, hb.mono h.size⟩
  by_cases h0 : id = 0
  · exact (dadd_zero hl hC hc id p h0).mono (no (by simp [addOk, inT, h0]))
  · by_cases hi : id ∈ ids ld
    · exact (dadd_has hl hC hc id p h0 hi).mono (no (by simp [addOk, inT, hi]))
    · by_cases p0 : p = 0
      · exact (dadd_top hl hC hc id p h0 hi p0).mono (yes (by simp [addOk, inT, h0, hi, p0]))
      · by_cases hp : p ∈ ids ld
        · exact (dadd_sub hl hC hc id p h0 hi p0 hp).mono (yes (by simp [addOk, inT, h0, hi, hp]))
        · exact (dadd_nop hl hC hc id p h0 hi p0 hp).mono (no (by simp [addOk, inT, p0, hp]))
theorem pd_cut (h : PS w base g lt v ld rows bl) (hw : WfT ld) (id n : Int) (hn : n ≤ 9223372036854775807) (hl : ld.length ≤ 60) :
    Calls Try.prog 12 #[v, .int .u64 id, .int .i64 n] w fun e w' => ∃ v1 v2, e = .returned (.tuple #[v1, v2]) ∧ PS w' base g lt v1 (cutT ld id n) ((v2, cutA ld id n) :: rows) bl ∧ Below base w w' := by
  obtain ⟨A, c, rfl, hC, hc⟩ := h.doc
  have no : ¬ (inT ld id ∧ 0 ≤ n) → ∀ e w', (e = Ending.returned (.tuple #[.slice A (toS ld).length c, .slice none 0 0]) ∧ Below w.heap.size w w') → ∃ v1 v2, e = .returned (.tuple #[v1, v2]) ∧ PS w' base g lt v1 (cutT ld id n) ((v2, cutA ld id n) :: rows) bl ∧ Below base w w' := by
    rintro ho e w1 ⟨rfl, hb⟩
    unfold cutT cutA
    rw [if_neg ho]
    refine ⟨_, _, rfl, ?_, hb.mono h.size⟩
    rw [show without ld [] = ld by simp [without]]
    exact h.newrow hb (Kd.R_nil _ _ _ _ _)
  have yes : ∀ q : Nat, n = q → inT ld id → ∀ e w', (∃ v1 v2, e = Ending.returned (.tuple #[v1, v2]) ∧ Kd.R k59 59 w' w.heap.size (fun _ => True) v1 (toS (without ld (cutG ld id q))) ∧ (Kd.int .u64).R 27 w' w.heap.size (fun k => v2.ownBlock = some k) v2 (cutG ld id q) ∧ Below w.heap.size w w') → ∃ v1 v2, e = .returned (.tuple #[v1, v2]) ∧ PS w' base g lt v1 (cutT ld id n) ((v2, cutA ld id n) :: rows) bl ∧ Below base w w' := by
    rintro q hq hi e w1 ⟨v1, v2, rfl, hR1, hR2, hb⟩
    unfold cutT cutA
    rw [if_pos ⟨hi, by omega⟩, hq, Int.toNat_natCast]
    refine ⟨_, _, rfl, ?_, hb.mono h.size⟩
    exact h.newdoc2 hb hR1 hR2
  by_cases n0 : n < 0
  · exact (dcut_neg id n n0).mono (no (by omega))
  · obtain ⟨q, hq⟩ : ∃ q : Nat, n = q := ⟨n.toNat, by omega⟩
    by_cases h0 : id = 0
    · subst h0
      exact (dcut_zero hw hl hC hc q n hq hn).mono (yes q hq (.inl rfl))
    · by_cases hi : id ∈ ids ld
      · exact (dcut_id hw hl hC hc hi q n hq hn).mono (yes q hq (.inr hi))
      · exact (dcut_no hl hC hc id n (by omega) h0 hi).mono (no (fun e => by rcases e.1 with e | e <;> contradiction))
theorem pd_drop (h : PS w base g lt v ld rows bl) (hw : WfT ld) (id : Int) (hl : ld.length ≤ 60) :
    Calls Try.prog 15 #[v, .int .u64 id] w fun e w' => ∃ v1 v2, e = .returned (.tuple #[v1, v2]) ∧ PS w' base g lt v1 (dropT ld id) ((v2, ord ld id) :: rows) bl ∧ Below base w w' := by
  obtain ⟨A, c, rfl, hC, hc⟩ := h.doc
  refine (ddrop_calls hw hl hC hc id).mono ?_
  rintro e w1 ⟨v1, v2, rfl, hR1, hR2, hb⟩
  exact ⟨_, _, rfl, h.newdoc2 hb hR1 hR2, hb.mono h.size⟩
theorem pd_has (h : PS w base g lt v ld rows bl) (id : Int) (hl : ld.length ≤ 60) :
    Calls Try.prog 19 #[v, .int .u64 id] w fun e w' => e = .returned (.bool (decide (id ≠ 0 ∧ id ∈ ids ld))) ∧ PS w' base g lt v ld rows bl ∧ Below base w w' := by
  obtain ⟨A, c, rfl, hC, hc⟩ := h.doc
  refine (steadingref16_Has.calls 1001 A c (toS ld) id _ w hC hc (has_f ld id (by omega))).mono ?_
  rintro e w1 ⟨rfl, hd⟩
  exact ⟨rfl, h.below hd.below, hd.below.mono h.size⟩
theorem pd_parent (h : PS w base g lt v ld rows bl) (id : Int) (hl : ld.length ≤ 60) :
    Calls Try.prog 21 #[v, .int .u64 id] w fun e w' => e = .returned (.int .u64 (par ld id)) ∧ PS w' base g lt v ld rows bl ∧ Below base w w' := by
  obtain ⟨A, c, rfl, hC, hc⟩ := h.doc
  refine (steadingref16_Parent.calls 1001 A c (toS ld) id _ w hC hc (par_f ld id (by omega))).mono ?_
  rintro e w1 ⟨rfl, hd⟩
  exact ⟨rfl, h.below hd.below, hd.below.mono h.size⟩
theorem pd_children (h : PS w base g lt v ld rows bl) (id : Int) (hl : ld.length ≤ 60) :
    Calls Try.prog 23 #[v, .int .u64 id] w fun e w' => ∃ u, e = .returned u ∧ PS w' base g lt v ld ((u, kids ld id) :: rows) bl ∧ Below base w w' := by
  obtain ⟨A, c, rfl, hC, hc⟩ := h.doc
  refine (steadingref16_Children.calls 1001 A c (toS ld) id _ w hC hc (kids_f ld id (by omega))).mono ?_
  rintro e w1 ⟨u, rfl, hR, hb⟩
  exact ⟨u, rfl, h.newrow hb (R_shrink hR), hb.mono h.size⟩
theorem pd_order (h : PS w base g lt v ld rows bl) (hw : WfT ld) (id : Int) (hl : ld.length ≤ 60) :
    Calls Try.prog 25 #[v, .int .u64 id] w fun e w' => ∃ u, e = .returned u ∧ PS w' base g lt v ld ((u, ord ld id) :: rows) bl ∧ Below base w w' := by
  obtain ⟨A, c, rfl, hC, hc⟩ := h.doc
  refine (dorder_calls hw hl hC hc id).mono ?_
  rintro e w1 ⟨u, rfl, hR, hb⟩
  exact ⟨u, rfl, h.newrow hb hR, hb.mono h.size⟩
end
end Go.Proofs.Ytjnpbikalamchaa.Tr
