/- A tree's Cut. -/
import Derived.Test.YtjnpbikalamchaaMCutP
set_option linter.unusedVariables false
set_option linter.unusedSimpArgs false
namespace Go.Proofs.Ytjnpbikalamchaa.Tr
open Go.RowKit Go.Maps Go.Proofs.YtjnpbikalamchaaW.PrintWords Go.Proofs.YtjnpbikalamchaaW.PrintLast Go.Proofs.YtjnpbikalamchaaW.PrintMore
attribute [local go_sem] max2_int min2_int
set_option maxHeartbeats 1000000 in
theorem cut_nil (id n : Int) (w : World) :
    Calls Try.prog 14 #[.pointer none, .int .u64 id, .int .i64 n] w fun e w' => e = .returned (.slice none 0 0) ∧ w' = w := by
  go_enter Try.func14, Try.ntmps14
  go_wp2_with fail
  refine (node_nil id w).mono ?_
  rintro e w1 ⟨rfl, rfl⟩
  go_wp2_with fail
  go_ret
  exact ⟨rfl, rfl⟩
set_option maxHeartbeats 1000000 in
theorem cut_no {w : World} {base : Nat} {ok : Nat → Prop} {g : Nat} {l : T} (h : TR w base ok g l) {id n : Int} (hu : u64 id) (hi : ¬ inT l id) :
    Calls Try.prog 14 #[.pointer (some ⟨g, 0, none⟩), .int .u64 id, .int .i64 n] w fun e w' => e = .returned (.slice none 0 0) ∧ w' = w := by
  obtain ⟨hw, m, nb, tag, D, hT⟩ := h
  go_enter Try.func14, Try.ntmps14
  go_wp2_with fail
  refine (node_no hT hu (by simpa using hi)).mono ?_
  rintro e w1 ⟨rfl, rfl⟩
  go_wp2_with fail
  go_ret
  exact ⟨rfl, rfl⟩
set_option maxHeartbeats 1000000 in
theorem cut_neg {w : World} {base : Nat} {ok : Nat → Prop} {g : Nat} {l : T} (h : TR w base ok g l) {id n : Int} (hu : u64 id) (hi : inT l id) (hn : n < 0) :
    Calls Try.prog 14 #[.pointer (some ⟨g, 0, none⟩), .int .u64 id, .int .i64 n] w fun e w' => e = .returned (.slice none 0 0) ∧ w' = w := by
  obtain ⟨hw, m, nb, tag, D, hT⟩ := h
  have hd : decide (n < 0) = true := by simpa using hn
  go_enter Try.func14, Try.ntmps14
  go_wp2_with fail
  refine (node_yes hT (by simpa using hi)).mono ?_
  rintro e w1 ⟨rfl, rfl⟩
  go_wp2_with fail
  go_ret
  exact ⟨rfl, rfl⟩
theorem tr_children {w : World} {base : Nat} {ok : Nat → Prop} {g : Nat} {l : T} (h : TR w base ok g l) {id : Int} (hu : u64 id) (hl : l.length ≤ 60) :
    Calls Try.prog 22 #[.pointer (some ⟨g, 0, none⟩), .int .u64 id] w fun e w' => ∃ v, e = .returned v ∧ (Kd.int .u64).R 27 w' w.heap.size (fun k => v.ownBlock = some k) v (kids l id) ∧ Below w.heap.size w w' := by
  obtain ⟨hw, m, nb, tag, D, hT⟩ := h
  refine (children_calls hT hu (by have := kids_len l id; omega)).mono ?_
  rintro e w1 ⟨v, rfl, hR, hb⟩
  refine ⟨v, rfl, ?_, hb⟩
  by_cases c : inT l id
  · simp only [c, decide_true, if_true] at hR; exact R_shrink hR
  · simp only [c, decide_false, Bool.false_eq_true, if_false] at hR; rw [hw.kids_none c]; exact R_shrink hR
section
variable {P : Program} {ops : Array Oper} {rest : List Oper} {o : Oper} {a : Act} {Q : Exit → Act → World → Prop}
/-- append(v, ys...) on a row of one's own. -/
theorem app_rows {W : World} (base : Nat) (hgd : o.guard = none) (s x : Operand)
    (ho : o.op = .call { callee := .builtin .append, args := #[s, x], argTypes := #[33, 33] }) (v : Value) (xs ys : List Int) (A : Option Addr) (m c : Nat) (hs : a.eval s = v) (hx : a.eval x = .slice A m c)
    (HO : (Kd.int .u64).R 27 W base (fun k => v.ownBlock = some k) v xs) (HR : (Kd.int .u64).C W A m ys) (hbase : base ≤ W.heap.size) (hl : (xs.length + m) * 8 ≤ 140737488355328)
    (h : ∀ v1 w1, (Kd.int .u64).R 27 w1 base (fun k => v1.ownBlock = some k) v1 (xs ++ ys) → W.grownBy w1 v.ownBlock → wpList Try.prog ops Q rest (a.put o.dst v1) w1) :
    wpList Try.prog ops Q (o :: rest) a W :=
  Kd.R_append_row (Value.int .u64) (0 : Int) (w0 := W) base hgd s x 33 27 (.int .u64 0) 8 ho Try.underlying33 info27 rfl (by decide) v xs ys A m c (fun k => v.ownBlock = some k ∨ W.heap.size ≤ k) hs hx (fun k hk => .inr hk) (Kd.R_mono HO (fun k hk => .inl hk)) HR (Below.refl _ _) hbase hl
    (fun v1 w1 hR _ hg _ => h v1 w1 (R_shrink hR) hg)
end
theorem WfT.cut_sub {l : T} (h : WfT l) {id y : Int} {n : Nat} (hy : y ∈ cutG l id n) : y ∈ ids l := by
  obtain ⟨c, hc, hu⟩ := h.mem_cutG.1 hy
  by_cases e : y = c
  · rw [e]; exact kid_in (List.mem_of_mem_drop hc)
  · exact hu.mem e
theorem WfT.cut_nodup {l : T} (h : WfT l) (id : Int) (n : Nat) : (cutG l id n).Nodup := by
  unfold cutG List.Nodup
  rw [List.pairwise_flatMap]
  have hnd : ((kids l id).drop n).Nodup := (h.kids_nodup id).sublist (List.drop_sublist _ _)
  have hk : ∀ c ∈ ((kids l id).drop n).reverse, c ∈ kids l id := fun c hc => List.mem_of_mem_drop (List.mem_reverse.1 hc)
  refine ⟨fun c hc => ?_, ?_⟩
  · unfold ord; rw [if_pos (kid_in (hk c hc))]; exact h.ord_nodup _ _
  · have hr : ((kids l id).drop n).reverse.Pairwise (· ≠ ·) := by rw [List.pairwise_reverse]; exact hnd.imp (fun h => Ne.symm h)
    refine hr.imp_of_mem (fun {a b} ha hb hab x hx y hy e => ?_)
    subst e
    exact hab (h.kids_apart (hk a ha) (hk b hb) ((h.mem_ord_iff (kid_in (hk a ha))).1 hx) ((h.mem_ord_iff (kid_in (hk b hb))).1 hy))
theorem cut_keeps {w wr w3 : World} {base : Nat} {ok : Nat → Prop} {v : Value} {xs : List Int} (h : (Kd.int .u64).R 27 wr w.heap.size (fun k => v.ownBlock = some k) v xs) (hf : Fr base (fun k => ok k ∧ k < w.heap.size) wr w3) :
    (Kd.int .u64).R 27 w3 w.heap.size (fun k => v.ownBlock = some k) v xs :=
  R_shrink (Kd.R_step (w1 := w3) (Kd.R_bound h) (fun k hk hlt => hf.k k hlt (fun e => by have := hk.2.1; have := e.2; omega)))
theorem cut_frame {w w3 w4 : World} {v : Value} {xs : List Int} (h : (Kd.int .u64).R 27 w3 w.heap.size (fun k => v.ownBlock = some k) v xs) (hg : w3.grownBy w4 v.ownBlock) (hs : w.heap.size ≤ w3.heap.size) : Fr w.heap.size (fun k => w.heap.size ≤ k) w3 w4 :=
  fr_grown_ok (Kd.R_mono (Kd.R_bound h) (fun k hk => hk.2.1)) hg hs
set_option maxRecDepth 10000 in
set_option maxHeartbeats 4000000 in
theorem cut_yes {w : World} {base : Nat} {ok : Nat → Prop} {g : Nat} {l : T} (h : TR w base ok g l) {id : Int} (n : Nat) (hu : u64 id) (hi : inT l id) (hl : l.length ≤ 60) (hbase : base ≤ w.heap.size) (hn : n ≤ 9223372036854775807) :
    Calls Try.prog 14 #[.pointer (some ⟨g, 0, none⟩), .int .u64 id, .int .i64 n] w fun e w' => ∃ v, e = .returned v ∧ (Kd.int .u64).R 27 w' w.heap.size (fun k => v.ownBlock = some k) v (cutG l id n) ∧ TR w' base ok g (without l (cutG l id n)) ∧ Fr base ok w w' := by
  have hw := h.1
  have h' : TR w base (fun k => ok k ∧ k < w.heap.size) g l := h.mono (fun k hk ho => ⟨ho, hk⟩)
  obtain ⟨_, m, nb, tag, D, hT⟩ := h'
  have hnode := node_yes hT (id := id) (by simpa using hi)
  have hch := tr_children ⟨hw, m, nb, tag, D, hT⟩ hu hl
  have HT := Aside0.mk (show TR w base (fun k => ok k ∧ k < w.heap.size) g l from ⟨hw, m, nb, tag, D, hT⟩)
  have hd : decide ((n : Int) < 0) = false := by simp
  clear hT
  go_enter Try.func14, Try.ntmps14
  go_wp2_with fail
  refine hnode.mono ?_
  rintro e w1 ⟨rfl, hw1⟩
  obtain rfl : w = w1 := hw1.symm
  go_wp2_with (go_at_call 22; refine hch.mono ?_; rintro e w2 ⟨v, rfl, hR, hb⟩)
  have HR0 := Aside0.mk (show (Kd.int .u64).R 27 w2 w.heap.size (fun k => v.ownBlock = some k) v ((kids l id).take (kids l id).length) by rw [List.take_length]; exact hR)
  have HO0 := Aside0.mk (show (Kd.int .u64).R 27 w2 w.heap.size (fun k => (Value.slice none 0 0).ownBlock = some k) (.slice none 0 0) (cutG l id (kids l id).length) by rw [cutG_all]; exact Kd.R_nil _ _ _ _ _)
  have HT2 := Aside0.mk (show TR w2 base (fun k => ok k ∧ k < w.heap.size) g (without l (cutG l id (kids l id).length)) by rw [cutG_all, show without l [] = l by simp [without]]; exact HT.out.below hb)
  have HF2 := Aside0.mk (show Fr base (fun k => ok k ∧ k < w.heap.size) w w2 from Fr.of_below hb hbase)
  clear hR hb hch hnode
  go_loopw [7, 8] (fun vo vl wr => ∃ q : Nat, q ≤ (kids l id).length ∧ (n ≤ q ∨ q = (kids l id).length) ∧ Aside0 ((Kd.int .u64).R 27 wr w.heap.size (fun k => vo.ownBlock = some k) vo (cutG l id q)) ∧ Aside0 ((Kd.int .u64).R 27 wr w.heap.size (fun k => vl.ownBlock = some k) vl ((kids l id).take q)) ∧ Aside0 (TR wr base (fun k => ok k ∧ k < w.heap.size) g (without l (cutG l id q))) ∧ Aside0 (Fr base (fun k => ok k ∧ k < w.heap.size) w wr)) (fun _ vl _ => match vl with | .slice _ a _ => a | _ => 0)
  case atStart => exact ⟨_, Nat.le_refl _, .inr rfl, HO0, HR0, HT2, HF2⟩
  case round =>
    obtain ⟨q, hq, hqn, hO, hR, hT, hF⟩ := hrel
    have hql : ((kids l id).take q).length = q := by rw [List.length_take]; omega
    obtain ⟨Ao, co, rfl⟩ := Kd.R_slice hO.out
    obtain ⟨Al, cl, rfl⟩ := Kd.R_slice hR.out
    rw [hql] at hR ⊢
    by_cases hlt : n < q
    · obtain ⟨r, rfl⟩ : ∃ r, q = r + 1 := ⟨q - 1, by omega⟩
      obtain ⟨bl, cl', he, hc, _⟩ := row_at (hR.out) (i := r) (by omega)
      rw [hql] at he
      injection he with he _ hcc
      subst he hcc
      obtain ⟨x, hx⟩ : ∃ x, x = (kids l id).getD r 0 := ⟨_, rfl⟩
      have hxc : ((kids l id).take (r + 1)).getD r 0 = x := by rw [hx, List.getD_eq_getElem?_getD, List.getElem?_take, if_pos (by omega), List.getD_eq_getElem?_getD]
      have hxm : x ∈ (kids l id).take (r + 1) := by
        rw [← hxc, List.getD_eq_getElem?_getD, List.getElem?_eq_getElem (by omega)]; exact List.getElem_mem _
      rw [hxc] at hc
      have hxk := List.mem_of_mem_take hxm
      have hcl := hw.cut_closed id (r + 1)
      have hxT : x ∈ ids (without l (cutG l id (r + 1))) := by
        have : x ∈ kids (without l (cutG l id (r + 1))) id := by rw [hw.kids_cut]; exact hxm
        exact kid_in this
      have hlT : (without l (cutG l id (r + 1))).length ≤ 60 := Nat.le_trans (List.length_filter_le _ _) hl
      have hox := hw.ord_cut hxm
      have hdrop := drop_yes hT.out hlT hxT (Nat.le_trans hbase hF.out.b.size)
      unfold dropT at hdrop
      rw [hox, without_without] at hdrop
      have hst := cutG_step (l := l) (id := id) (q := r) (by omega)
      rw [← hx] at hst
      rw [← hst] at hdrop
      have HDR := Aside0.mk hdrop
      have HX := Aside0.mk hx
      have HST := Aside0.mk hst
      have h0 : (n : Int) < ((r + 1 : Nat) : Int) := by omega
      have h1 : 0 ≤ (r : Int) ∧ (r : Int) < ((r + 1 : Nat) : Int) := by omega
      have h2 : ((r + 1 : Nat) : Int) - 1 = (r : Int) := by omega
      have hxo : (ord l x).length ≤ l.length + 1 := by
        unfold ord
        rw [if_pos (kid_in hxk)]
        exact hw.ord_len _ _
      have hco : (cutG l id (r + 1)).length ≤ l.length := by
        have := (hw.cut_nodup id (r + 1)).length_le_of_subset (l₂ := ids l) (fun y hy => hw.cut_sub hy)
        rwa [ids_len] at this
      have hrb : r < 60 := by have := kids_len l id; omega
      clear hx hst hdrop hox hxc
      have HO := hO.out
      go_wp2_with (first
        | (go_at_call 16; refine HDR.out.mono ?_; rintro e w3 ⟨v3, rfl, hR3, hT3, hF3⟩; obtain ⟨A3, c3, rfl⟩ := Kd.R_slice hR3; have HR3 := Aside0.mk hR3; have HT3 := Aside0.mk hT3; have HF3 := Aside0.mk hF3; have HO3 := Aside0.mk (cut_keeps HO hF3); have HC3 := Aside0.mk (Kd.R_reads' hR3).2.2; have hs3 : w.heap.size ≤ w3.heap.size := Nat.le_trans hF.out.b.size hF3.b.size; clear hR3 hT3 hF3)
        | (at_builtin; refine app_rows w.heap.size rfl _ _ rfl (.slice Ao (cutG l id (r + 1)).length co) (cutG l id (r + 1)) (ord l x) A3 (ord l x).length c3 rfl rfl HO3.out HC3.out hs3 (by omega) ?_; intro v4 w4 hR4 hg4; have HF4 := Aside0.mk (cut_frame HO3.out hg4 hs3); have HT4 := Aside0.mk (HT3.out.step (fun k hk hlt => HF4.out.k k hlt (fun e => by have := hk.2; omega))); have HR4 := Aside0.mk hR4; have hs4 : w.heap.size ≤ w4.heap.size := Nat.le_trans hs3 HF4.out.b.size; clear hR4 hg4)
        | (go_at_call 22; refine (tr_children HT4.out hu (Nat.le_trans (List.length_filter_le _ _) hl)).mono ?_; rintro e w5 ⟨v5, rfl, hR5, hb5⟩))
      have hF35 := hF.out.trans HF3.out
      have hF5 : Fr base (fun k => ok k ∧ k < w.heap.size) w w5 := ⟨(hF35.b.trans (HF4.out.b.mono hbase)).trans (hb5.mono (Nat.le_trans hbase hs4)), fun i hi ho => ((hb5.block i (by omega)).trans (HF4.out.k i (by omega) (by omega))).trans (hF35.k i hi ho)⟩
      obtain ⟨A5, c5, rfl⟩ := Kd.R_slice hR5
      have hk5 : kids (without l (cutG l id r)) id = (kids l id).take r := hw.kids_cut id r
      rw [hk5] at hR5 ⊢
      have hl5 : ((kids l id).take r).length = r := by rw [List.length_take]; omega
      rw [hl5] at hR5 ⊢
      rw [← HST.out] at HR4
      exact ⟨⟨r, by omega, .inl (by omega), Aside0.mk (Kd.R_below HR4.out hb5), Aside0.mk (Kd.R_lower hR5 hs4), Aside0.mk (HT4.out.below hb5), Aside0.mk hF5⟩, by show r < r + 1; omega⟩
    · have hcq : cutG l id n = cutG l id q := by
        rcases hqn with c | c
        · rw [show q = n by omega]
        · rw [c, cutG_all]; unfold cutG; rw [List.drop_eq_nil_of_le (by omega)]; rfl
      have HC := Aside0.mk hcq
      have h1 : ¬ (n : Int) < (q : Int) := by omega
      clear hcq
      go_wp2_with fail
      go_ret
      rw [HC.out]
      exact ⟨_, rfl, hO.out, hT.out.mono (fun k _ ho => ho.1), hF.out.mono (fun k hk => hk.1)⟩
end Go.Proofs.Ytjnpbikalamchaa.Tr
