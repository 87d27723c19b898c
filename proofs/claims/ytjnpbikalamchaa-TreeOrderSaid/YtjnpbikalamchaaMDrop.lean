/- A tree's Drop. -/
import Derived.Test.YtjnpbikalamchaaMDropP
import Derived.BigQuiet
set_option linter.unusedVariables false
set_option linter.unusedSimpArgs false
namespace Go.Proofs.Ytjnpbikalamchaa.Tr
open Go.RowKit Go.Maps Go.Proofs.YtjnpbikalamchaaW.PrintWords Go.Proofs.YtjnpbikalamchaaW.PrintLast Go.Proofs.YtjnpbikalamchaaW.PrintMore
attribute [local go_sem] max2_int min2_int
theorem ord_none {l : T} {id : Int} (h : id ∉ ids l) : ord l id = [] := by unfold ord; rw [if_neg h]
theorem WfT.ord_self {l : T} (h : WfT l) {id : Int} (hid : id ∈ ids l) : id ∈ ord l id := (h.mem_ord_iff hid).2 (.refl _)
set_option maxHeartbeats 1000000 in
theorem drop_none {w : World} {base : Nat} {ok : Nat → Prop} {g : Nat} {l : T} (h : TR w base ok g l) {id : Int} (hu : u64 id) (hl : l.length ≤ 60) (hn : id ∉ ids l) :
    Calls Try.prog 16 #[.pointer (some ⟨g, 0, none⟩), .int .u64 id] w fun e w' => e = .returned (.slice none 0 0) ∧ Below w.heap.size w w' := by
  have ho := tr_order (h.step (w1 := w.alloc (.cells #[.int .u64 id] 27)) (fun k _ hk => heap_alloc_old _ _ hk)) hu hl
  rw [ord_none hn] at ho
  have hbx := blk1_0 (heap_alloc_new w (.cells #[.int .u64 id] 27))
  go_enter Try.func16, Try.ntmps16
  go_wp2_with (go_at_call 24; refine ho.mono ?_; rintro e w1 ⟨v, rfl, hR, hb⟩; obtain ⟨A, c, rfl⟩ := Kd.R_slice hR; rw [List.length_nil])
  go_ret
  exact ⟨rfl, (below_alloc (Below.refl _ _) _).trans (hb.mono (by simp))⟩
set_option maxHeartbeats 1000000 in
theorem drop_nil (id : Int) (w : World) :
    Calls Try.prog 16 #[.pointer none, .int .u64 id] w fun e w' => e = .returned (.slice none 0 0) ∧ Below w.heap.size w w' := by
  have hbx := blk1_0 (heap_alloc_new w (.cells #[.int .u64 id] 27))
  go_enter Try.func16, Try.ntmps16
  go_wp2_with (go_at_call 24; refine (order_nil id _).mono ?_; rintro e w1 ⟨rfl, hb⟩)
  go_ret
  exact ⟨rfl, (below_alloc (Below.refl _ _) _).trans (hb.mono (by simp))⟩
theorem nodup_inj {ks : List Int} (h : ks.Nodup) {i j : Nat} (hi : i < ks.length) (hj : j < ks.length) (e : ks[i] = ks[j]) : i = j := by
  have hp := List.pairwise_iff_getElem.1 h
  rcases Nat.lt_trichotomy i j with c | c | c
  · exact absurd e (hp i j hi hj c)
  · exact c
  · exact absurd e.symm (hp j i hj hi c)
theorem without_len {l : T} {gone : List Int} (hn : gone.Nodup) (hs : ∀ x ∈ gone, x ∈ ids l) (hl : (ids l).Nodup) : (without l gone).length + gone.length = l.length := by
  have e1 : (without l gone).length = ((ids l).filter (fun x => decide (x ∉ gone))).length := by rw [← ids_without, ids_len]
  have e2 : ((ids l).filter (fun x => decide (x ∈ gone))).length = gone.length := by
    apply Nat.le_antisymm
    · exact (hl.sublist List.filter_sublist).length_le_of_subset (fun x hx => by simpa using (List.mem_filter.1 hx).2)
    · exact hn.length_le_of_subset (fun x hx => List.mem_filter.2 ⟨hs x hx, by simpa using hx⟩)
  have e3 : ∀ (xs : List Int), (xs.filter (fun x => decide (x ∉ gone))).length + (xs.filter (fun x => decide (x ∈ gone))).length = xs.length := by
    intro xs
    induction xs with
    | nil => rfl
    | cons a r ih =>
      by_cases c : a ∈ gone
      · simp [List.filter_cons, c] at ih ⊢; omega
      · simp [List.filter_cons, c] at ih ⊢; omega
  have := e3 (ids l)
  rw [ids_len] at this
  omega
set_option maxRecDepth 10000 in
set_option maxHeartbeats 4000000 in
theorem drop_yes {w : World} {base : Nat} {ok : Nat → Prop} {g : Nat} {l : T} (h : TR w base ok g l) {id : Int} (hl : l.length ≤ 60) (hid : id ∈ ids l) (hbase : base ≤ w.heap.size) :
    Calls Try.prog 16 #[.pointer (some ⟨g, 0, none⟩), .int .u64 id] w fun e w' => ∃ v, e = .returned v ∧ (Kd.int .u64).R 27 w' w.heap.size (fun k => v.ownBlock = some k) v (ord l id) ∧ TR w' base ok g (dropT l id) ∧ Fr base ok w w' := by
  have hu := h.1.u id hid
  have ho := tr_order (h.step (w1 := w.alloc (.cells #[.int .u64 id] 27)) (fun k _ hk => heap_alloc_old _ _ hk)) hu hl
  have hbx := blk1_0 (heap_alloc_new w (.cells #[.int .u64 id] 27))
  have hbk := heap_alloc_new w (.cells #[.int .u64 id] 27)
  obtain ⟨hw, m, nb, tag, D, hT⟩ := h
  have HT := Aside0.mk (hT.mono (ok' := fun k => ok k ∧ k < w.heap.size) (tag' := tag) (fun k hk ho => ⟨ho, hk⟩) (fun _ _ => rfl))
  have hgn : 0 < (ord l id).length := List.length_pos_of_mem (hw.ord_self hid)
  have hgl : (ord l id).length ≤ l.length + 1 := by unfold ord; rw [if_pos hid]; exact hw.ord_len _ _
  obtain ⟨gone, hgone⟩ : ∃ gone, gone = ord l id := ⟨_, rfl⟩
  rw [← hgone] at ho hgn hgl ⊢
  have HG := Aside0.mk hgone
  clear hgone hT
  go_enter Try.func16, Try.ntmps16
  go_wp2_with (go_at_call 24; refine ho.mono ?_; rintro e w1 ⟨v, rfl, hR, hb⟩; obtain ⟨A, c, rfl⟩ := Kd.R_slice hR; have hbx1 := pw_cell_below hb hbx; have hR1 := Aside0.mk hR; have hb1 := Aside0.mk hb; clear hR hb)
  obtain ⟨p, hp⟩ : ∃ p, p = par l id := ⟨_, rfl⟩
  have hpi : inT l p := by rw [hp]; exact hw.par_in hid
  have hT1 := HT.out.step (w1 := w1) (fun k hk hlt => (hb1.out.block k (by simp; omega)).trans (heap_alloc_old _ _ hk.2))
  have g0 := blk1_0 hT1.blk
  have hTq : ∀ q, TX (w1.drewN q) base _ g _ _ _ _ m nb tag D := fun q => hT1.step (w1 := w1.drewN q) (fun _ _ _ => rfl)
  have hpar := fun q => parent_yes (hTq q) (id := id) (by simp [inT, hid])
  rw [← hp] at hpar
  have hrun : ∀ W : World, W.heap = w1.heap → (Instr.lookup 55 (.map (some m)) (.int .u64 p) false).run Try.prog W = .ok (.pointer (some ⟨nb p, 0, none⟩)) W := fun W hW => by
    have hTW := hT1.step (w1 := W) (fun k _ _ => by rw [hW])
    have := hTW.map.look hTW.own (hTW.rng p (by simpa using hpi))
    rwa [if_pos (by simpa using hpi)] at this
  have hrun0 := hrun w1 rfl
  have hrunq := fun q => hrun (w1.drewN q) rfl
  clear hrun
  obtain ⟨pv, hpb, _, _, hpt, hpR⟩ := hT1.node p (by simpa using hpi)
  have hik : id ∈ kids l p := by rw [hp]; exact hw.kid_iff.2 ⟨hid, rfl⟩
  obtain ⟨i0, hi0, hie⟩ : ∃ i0, i0 < (kids l p).length ∧ (kids l p).getD i0 0 = id := by
    obtain ⟨i, hi, he⟩ := List.mem_iff_getElem.1 hik
    exact ⟨i, hi, by rw [List.getD_eq_getElem?_getD, List.getElem?_eq_getElem hi]; exact he⟩
  obtain ⟨b, cap, rfl, hbb, _, _⟩ := Kd.R_form hpR (by omega)
  have hpo := hpR.1 b rfl
  have g1 := blk2_1 hpb
  have gf1 := blk2_f hpb 1
  have HPB := Aside0.mk hpb
  have HPR := Aside0.mk hpR
  have HT1 := Aside0.mk hT1
  have HPI := Aside0.mk hpi
  have HP := Aside0.mk hp
  clear hpb hpR hT1 hpi hp hTq
  go_quiet ((go_at_call 20; exact Calls.quiet_of_same (hpar _)))
  obtain ⟨W, hW⟩ : ∃ W, W = w1.drewN nq := ⟨_, rfl⟩
  have hWh : W.heap = w1.heap := by rw [hW]; rfl
  rw [← hW]
  have hB1 : Below w.heap.size w W := by
    have h1 := (below_alloc (Below.refl w.heap.size w) (.cells #[.int .u64 id] 27)).trans (hb1.out.mono (by simp))
    rw [hW]; exact pw_below_drewN h1 _
  have hTW := HT1.out.step (w1 := W) (fun k _ _ => by rw [hWh])
  have hRW := Kd.R_step (w1 := W) HPR.out (fun k _ _ => by rw [hWh])
  have hbW := HPB.out
  rw [← hWh] at hbW
  have hbxW : W.heap[w.heap.size]? = some (.cells #[.int .u64 id] 27 (0, 0)) := by rw [hWh]; exact (hb1.out.block _ (by simp)).trans hbk
  have hRg := Kd.R_step (w1 := W) hR1.out (fun k _ _ => by rw [hWh])
  have hblt : b < w.heap.size := hpo.1.2
  obtain ⟨d0, hd0⟩ : ∃ d0, i0 + 1 + d0 = (kids l p).length := ⟨(kids l p).length - (i0 + 1), by omega⟩
  have hnd := hw.kids_nodup p
  have hdel := delf_calls hRW hbxW (by omega) (by have := kids_len l p; omega) hd0 hie (fun j hj hji e => hji (by
    have e1 : (kids l p)[j] = (kids l p)[i0] := by
      rw [← hie] at e
      rw [List.getD_eq_getElem?_getD, List.getElem?_eq_getElem hj, List.getD_eq_getElem?_getD, List.getElem?_eq_getElem hi0] at e
      exact e
    exact nodup_inj hnd hj hi0 e1)) hbb
  rw [erase_filter hnd hi0, hie] at hdel
  have g1W := blk2_1 hbW
  have gf1W := blk2_f hbW 1
  have HTW := Aside0.mk hTW
  have HRW := Aside0.mk hRW
  have HBW := Aside0.mk hbW
  have HRG := Aside0.mk hRg
  have HB1 := Aside0.mk hB1
  have HDEL := Aside0.mk hdel
  clear hTW hRW hbW hRg hB1 hdel hrun0 hrunq g0 g1 gf1 hW hWh
  go_wp2_with (go_at_call 28; refine HDEL.out.mono ?_; rintro e w2 ⟨rfl, hR2, hg2⟩; have HR2 := Aside0.mk hR2; have HG2 := Aside0.mk hg2; have hb2 := (hg2.block (nb p) (lt_blk HBW.out) (fun e => tN_tR _ _ (hpt.symm.trans (by injection e with e; rw [e]; exact hpo.2)))).trans HBW.out; have g2 := blk2_1 hb2; have gf2 := blk2_f hb2 1; clear hR2 hg2 hb2)
  have hT3 := HTW.out.row (p := p) (v := .slice (some ⟨b, 0, none⟩) (kids l p).length cap) (v1 := .slice (some ⟨b, 0, none⟩) (i0 + d0) cap) (ks := (kids l p).filter (fun c => decide (c ≠ id))) (by simpa using HPI.out) HBW.out (fun k hk => by injection hk with hk; rw [← hk]; exact hpo.2) HG2.out HR2.out
  have hF3 := (fr_grown_ok (Kd.R_mono HRW.out (fun k hk => hk.1)) HG2.out (Nat.le_trans hbase HB1.out.size)).set (b := nb p) (HTW.out.node p (by simpa using HPI.out)).choose_spec.2.1 (HTW.out.node p (by simpa using HPI.out)).choose_spec.2.2.1 1 (.slice (some ⟨b, 0, none⟩) (i0 + d0) cap)
  obtain ⟨W3, hW3⟩ : ∃ W3, W3 = w2.setCell ⟨nb p, 1, none⟩ (.slice (some ⟨b, 0, none⟩) (i0 + d0) cap) := ⟨_, rfl⟩
  rw [← hW3] at hT3 hF3 ⊢
  obtain ⟨ki, hki⟩ : ∃ ki : Int → List Int, ki = fun x => if x = p then (kids l p).filter (fun c => decide (c ≠ id)) else kids l x := ⟨_, rfl⟩
  rw [← hki] at hT3
  have HKI := Aside0.mk hki
  have HT3 := Aside0.mk (show ∃ D', TX W3 base (fun k => ok k ∧ k < w.heap.size) g (fun x => decide (x ∉ gone.take 0) && decide (inT l x)) (l.length + 1 - 0) (par l) ki m nb tag D' from ⟨_, hT3.congr (fun x => by simp) rfl (fun _ _ => rfl) (fun _ _ => rfl)⟩)
  have HF3 := Aside0.mk hF3
  have hgin : ∀ x ∈ gone, inT l x ∧ u64 x := fun x hx => by
    rw [HG.out, hw.mem_ord_iff hid] at hx
    have : x ∈ ids l := by
      by_cases c : x = id
      · rw [c]; exact hid
      · exact hx.mem c
    exact ⟨.inr this, hw.u x this⟩
  have hgnd : gone.Nodup := by rw [HG.out]; unfold ord; rw [if_pos hid]; exact hw.ord_nodup _ _
  have HGIN := Aside0.mk hgin
  have HGND := Aside0.mk hgnd
  have hgl2 : gone.length ≤ l.length := by
    have := hgnd.length_le_of_subset (l₂ := ids l) (fun x hx => by
      rw [HG.out, hw.mem_ord_iff hid] at hx
      by_cases c : x = id
      · rw [c]; exact hid
      · exact hx.mem c)
    rwa [ids_len] at this
  have hRow : ∀ W', Fr base (fun k => ok k ∧ k < w.heap.size) W W' → (Kd.int .u64).R 27 W' w.heap.size (fun k => (Value.slice A gone.length c).ownBlock = some k) (.slice A gone.length c) gone := fun W' hf => by
    have h1 := Kd.R_bound HRG.out
    have h2 := Kd.R_step (w1 := W') h1 (fun k hk hlt => hf.k k hlt (fun e => by have h3 := hk.2.1; rw [World.size_alloc] at h3; have := e.2; omega))
    exact R_shrink (Kd.R_lower h2 (by simp))
  have HROW := Aside0.mk hRow
  clear hT3 hF3 hki hgin hgnd hRow hW3 g2 gf2 g1W gf1W hbx hbk ho hpar
  go_loopw [34] (fun vi wr => ∃ k : Nat, k ≤ gone.length ∧ vi = .int .i64 k ∧ Aside0 (∃ D', TX wr base (fun k => ok k ∧ k < w.heap.size) g (fun x => decide (x ∉ gone.take k) && decide (inT l x)) (l.length + 1 - k) (par l) ki m nb tag D') ∧ Aside0 (Fr base (fun k => ok k ∧ k < w.heap.size) W wr)) (fun vi _ => gone.length - (intOf vi).toNat)
  case atStart => exact ⟨0, Nat.zero_le _, rfl, HT3, HF3⟩
  case round =>
    obtain ⟨k, hk, rfl, hTk, hFk⟩ := hrel
    by_cases hlt : k < gone.length
    · obtain ⟨D', hT'⟩ := hTk.out
      obtain ⟨b', c', he, hc, _⟩ := row_at (HROW.out wr hFk.out) hlt
      injection he with he _ hcc
      subst he hcc
      have hgk : gone.getD k 0 = gone[k] := by rw [List.getD_eq_getElem?_getD, List.getElem?_eq_getElem hlt]; rfl
      obtain ⟨x, hx⟩ : ∃ x, x = gone.getD k 0 := ⟨_, rfl⟩
      rw [← hx] at hc
      have hxg : x ∈ gone := by rw [hx, hgk]; exact List.getElem_mem hlt
      have hxt : x ∉ gone.take k := fun hm => by
        obtain ⟨i, hi, e⟩ := List.mem_iff_getElem.1 hm
        rw [List.getElem_take, hx, hgk] at e
        have := nodup_inj HGND.out _ hlt e
        rw [List.length_take] at hi
        omega
      obtain ⟨hxi, hxu⟩ := HGIN.out x hxg
      have g0 := blk1_0 hT'.blk
      rw [show l.length + 1 - k = (l.length - k) + 1 by omega] at hT'
      have HX := Aside0.mk hx
      have HT' := Aside0.mk hT'
      have h1 : 0 ≤ (k : Int) ∧ (k : Int) < (gone.length : Int) := by omega
      have h2 : (k : Int) < (gone.length : Int) := by omega
      clear hx hgk hT'
      go_wp2_with (at_delete; refine wpList_delete_own _ rfl _ _ 55 27 rfl 52 law27 Try.underlying55 Rp m _ D' rfl HT'.out.own (.int .u64 x) _ rfl (key27 hxu) ?_; intro w5 hown5 hturn5; have HO5 := Aside0.mk hown5; have HN5 := Aside0.mk hturn5; clear hown5 hturn5)
      go_roundw
      case rel =>
        have hd := HT'.out.drop (id := x) (by simp [hxt, hxi]) HO5.out HN5.out
        have htk : ∀ y, y ∉ gone.take (k + 1) ↔ ¬ y = x ∧ y ∉ gone.take k := fun y => by
          rw [List.take_succ_eq_append_getElem hlt, List.mem_append, List.mem_singleton, ← show x = gone[k] by have := HX.out; rw [List.getD_eq_getElem?_getD, List.getElem?_eq_getElem hlt] at this; exact this]
          exact ⟨fun h => ⟨fun e => h (.inr e), fun e => h (.inl e)⟩, fun h e => e.elim h.2 h.1⟩
        refine ⟨k + 1, by omega, by simp, Aside0.mk ⟨_, hd.congr (fun y => ?_) (by omega) (fun _ _ => rfl) (fun _ _ => rfl)⟩, Aside0.mk (hFk.out.trans (fr_turned HN5.out HT'.out.mo HT'.out.mb (Nat.le_trans (Nat.le_trans hbase HB1.out.size) hFk.out.b.size)))⟩
        rw [Bool.eq_iff_iff]
        simp only [Bool.and_eq_true, Bool.not_eq_true', decide_eq_true_eq, decide_eq_false_iff_not, htk]
        exact ⟨fun h => ⟨⟨h.1, h.2.1⟩, h.2.2⟩, fun h => ⟨h.1.1, h.1.2, h.2⟩⟩
      case measure => simp [intOf]; omega
    · obtain rfl : k = gone.length := by omega
      obtain ⟨D', hT'⟩ := hTk.out
      have HT' := Aside0.mk hT'
      have hfin : TR wr base ok g (dropT l id) := by
        have hcl := hw.ord_closed hid
        have hlen := without_len HGND.out (fun x hx => by have := (HGIN.out x hx).1; have h0 : x ≠ 0 := (fun e => by (rw [HG.out] at hx; exact hcl.1 (e ▸ hx))); exact this.resolve_left h0) hw.nodup
        unfold dropT
        rw [← HG.out]
        rw [← HG.out] at hcl
        refine ⟨hw.without hcl, m, nb, tag, D', (HT'.out.congr (S' := fun x => decide (inT (without l gone) x)) (n' := (without l gone).length + 1) (pa' := par (without l gone)) (ki' := kids (without l gone)) (fun x => ?_) (by omega) (fun x hx => ?_) (fun x hx => ?_)).mono (fun k _ ho => ho.1) (fun _ _ => rfl)⟩
        · rw [Bool.eq_iff_iff]
          rw [Bool.and_eq_true, decide_eq_true_eq, decide_eq_true_eq, decide_eq_true_eq, List.take_length]
          unfold inT
          rw [mem_without]
          constructor
          · rintro ⟨h1, h2 | h2⟩
            · exact .inl h2
            · exact .inr ⟨h2, h1⟩
          · rintro (h2 | h2)
            · exact ⟨by rw [h2]; exact hcl.1, .inl h2⟩
            · exact ⟨h2.2, .inr h2.1⟩
        · simp only [List.take_length, Bool.and_eq_true, decide_eq_true_eq] at hx
          by_cases c : x ∈ ids l
          · exact (hw.par_without hcl (mem_without.2 ⟨c, hx.1⟩)).symm
          · rw [par_none c, par_none (fun h => c (mem_without.1 h).1)]
        · simp only [List.take_length, Bool.and_eq_true, decide_eq_true_eq] at hx
          have hx1 := hx.1
          rw [HG.out] at hx1
          have hkd := hw.kids_drop hid hx1
          rw [← HG.out, ← HP.out] at hkd
          rw [hkd, HKI.out]
          by_cases c : x = p
          · simp only [c, if_true]
          · simp only [c, if_false]
      have hffr : Fr base ok w wr := by
        refine (Fr.of_below HB1.out hbase).trans (hFk.out.mono (fun k hk => hk.1))
      have HFIN := Aside0.mk hfin
      have HFFR := Aside0.mk hffr
      have HRR := Aside0.mk (HROW.out wr hFk.out)
      clear hfin hffr hT'
      go_wp2_with fail
      go_ret
      exact ⟨_, rfl, HRR.out, HFIN.out, HFFR.out⟩
end Go.Proofs.Ytjnpbikalamchaa.Tr
