/- TableReuse, walked by hand: slots are used again, the one that was freed last first. -/
import Derived.Test.YtgcbfbdhibbpdaaMKinds
import Derived.Test.YtgcbfbdhibbpdaaRows
import Derived.Deep.SlicePairs
import Derived.ChangeArms
import Derived.OpenShut
import Derived.ChangeOld
set_option linter.unusedVariables false
set_option linter.unusedSimpArgs false
namespace Go.Proofs.Ytgcbfbdhibbpdaa.Tb
open Go.ChangeShapes Go.WideShapes Go.RowKit Go.Proofs.YtgcbfbdhibbpdaaW.PrintWords Go.Proofs.YtgcbfbdhibbpdaaW.PrintLast Go.Proofs.YtgcbfbdhibbpdaaW.PrintMore
attribute [local go_sem] max2_int min2_int
theorem unpk_calls {k g : Int} {i : Nat} (hk : 1 ≤ k ∧ k ≤ 3) (hi : i < 4294967296) (hg : 0 ≤ g ∧ g < 1073741824) (w : World) :
    Calls Try.prog 12 #[.int .u64 (pk k i g)] w fun e w' => e = .returned (.tuple #[.int .i64 k, .int .i64 i, .int .i64 g, .bool true]) ∧ Below w.heap.size w w' := by
  obtain ⟨h1, h2, h3, h4, h5⟩ := pk_parts hk hi hg
  have := unpack_yes (pk k i g) w h1 h2
  have h6 : pk k i g % 4294967296 = i := by unfold ixn at h3; omega
  rw [h4, h5, h6] at this
  exact this
/-- What was written down of k things: which were given up, in order. -/
def hsK (k : Nat) : List Int := (List.range k).map fun (i : Nat) => pk 1 (i : Int) 0
theorem hsK_len (k : Nat) : (hsK k).length = k := by simp [hsK]
theorem range_get (f : Nat → Int) {k i : Nat} (h : i < k) : ((List.range k).map f).getD i 0 = f i := by
  rw [List.getD_eq_getElem?_getD, List.getElem?_map, List.getElem?_range h]
  rfl
theorem range_snoc (f : Nat → Int) (k : Nat) : (List.range k).map f ++ [f k] = (List.range (k + 1)).map f := by rw [List.range_succ, List.map_append]; rfl
theorem hsK_get {k i : Nat} (h : i < k) : (hsK k).getD i 0 = pk 1 i 0 := range_get (fun (i : Nat) => pk 1 (i : Int) 0) h
theorem hsK_snoc (k : Nat) : hsK k ++ [pk 1 k 0] = hsK (k + 1) := range_snoc (fun (i : Nat) => pk 1 (i : Int) 0) k
structure Freed (s : List (Bool × Int)) (k : Nat) (F : List Nat) : Prop where
  len : s.length = k
  good : Good s (F.map fun (i : Nat) => (i : Int))
  at_ : ∀ i, i < k → s.getD i (false, 0) = if i ∈ F then (false, 1) else (true, 0)
theorem Freed.start {k : Nat} (h : k ≤ 200) : Freed (sk (slK k)) k [] :=
  ⟨by rw [sk_length, slK_len], slK_good h, fun i hi => by rw [sk_getD, slK_get hi]; rfl⟩
theorem Freed.lv {s : List (Bool × Int)} {k : Nat} {F : List Nat} (h : Freed s k F) {j : Nat} (hj : j < k) (hk : k ≤ 200) : lvS 1 s (pk 1 j 0) = decide (j ∉ F) := by
  obtain ⟨h1, h2, h3, h4, h5⟩ := pk_parts (k := 1) (g := 0) (i := j) (by omega) (by omega) (by omega)
  rw [Bool.eq_iff_iff, lvS_iff, decide_eq_true_eq, h3, h4, h5, h.len, h.at_ j hj]
  by_cases c : j ∈ F
  · simp [c]
  · simp [c, hj, h1]
theorem Freed.drop {s : List (Bool × Int)} {k : Nat} {F : List Nat} (h : Freed s k F) {j : Nat} (hj : j < k) (hF : j ∉ F) : Freed (dropS s j) k (F ++ [j]) := by
  have hg := h.at_ j hj
  rw [if_neg hF] at hg
  have hl : j < s.length := by rw [h.len]; exact hj
  refine ⟨by unfold dropS; rw [List.length_set]; exact h.len, ?_, fun i hi => ?_⟩
  · have := h.good.drop hl (by rw [hg])
    simpa using this
  · unfold dropS
    by_cases c : j = i
    · subst c
      rw [getD_set_eq hl, hg, if_pos (by simp)]
      rfl
    · rw [getD_set_ne c, h.at_ i hi]
      have : (i ∈ F ++ [j]) ↔ i ∈ F := by simp; omega
      by_cases ci : i ∈ F
      · rw [if_pos ci, if_pos (this.2 ci)]
      · rw [if_neg ci, if_neg (fun h => ci (this.1 h))]
theorem Freed.flen {s : List (Bool × Int)} {k : Nat} {F : List Nat} (h : Freed s k F) : F.length ≤ k := by
  have := h.good.flen'
  rw [h.len] at this
  simpa using this
/-- What is given back from behind. -/
structure Back (s : List (Bool × Int)) (k : Nat) (F : List Nat) : Prop where
  len : s.length = k
  good : Good s (F.map fun (i : Nat) => (i : Int))
  at_ : ∀ i ∈ F, i < k ∧ s.getD i (false, 0) = (false, 1)
theorem Freed.back {s : List (Bool × Int)} {k : Nat} {F : List Nat} (h : Freed s k F) : Back s k F :=
  ⟨h.len, h.good, fun i hi => by
    have hk : i < k := by
      obtain ⟨j, e, hj, _⟩ := h.good.free (i : Int) (List.mem_map.2 ⟨i, hi, rfl⟩)
      rw [h.len] at hj
      omega
    exact ⟨hk, by rw [h.at_ i hk, if_pos hi]⟩⟩
theorem Back.addI {s : List (Bool × Int)} {k : Nat} {F : List Nat} {x : Nat} (h : Back s k (F ++ [x])) : addI s ((F ++ [x]).map fun (i : Nat) => (i : Int)) = x ∧ addG s ((F ++ [x]).map fun (i : Nat) => (i : Int)) = 1 ∧ ((F ++ [x]).map fun (i : Nat) => (i : Int)).dropLast = F.map fun (i : Nat) => (i : Int) := by
  have e : (F ++ [x]).map (fun (i : Nat) => (i : Int)) = F.map (fun (i : Nat) => (i : Int)) ++ [(x : Int)] := by simp
  rw [e]
  have ha := addI_snoc s (F.map (fun (i : Nat) => (i : Int))) x
  refine ⟨ha, ?_, List.dropLast_concat⟩
  unfold addG
  rw [if_neg (by simp), ha, (h.at_ x (by simp)).2]
theorem Back.add {s : List (Bool × Int)} {k : Nat} {F : List Nat} {x : Nat} (h : Back s k (F ++ [x])) (hk : k < 200) : Back (addS s ((F ++ [x]).map fun (i : Nat) => (i : Int))) k F := by
  obtain ⟨e1, e2, e3⟩ := h.addI
  have hx := (h.at_ x (by simp)).1
  have hg := h.good.add (by rw [h.len]; exact hk)
  rw [e3] at hg
  have hnd : x ∉ F := by
    intro hm
    have hn := h.good.nodup
    have e : (F ++ [x]).map (fun (i : Nat) => (i : Int)) = F.map (fun (i : Nat) => (i : Int)) ++ [(x : Int)] := by simp
    rw [e, List.nodup_append] at hn
    exact hn.2.2 (x : Int) (List.mem_map.2 ⟨x, hm, rfl⟩) _ (by simp) rfl
  have es : addS s ((F ++ [x]).map fun (i : Nat) => (i : Int)) = s.set x (true, 1) := by
    have e1' := e1
    have e2' := e2
    unfold addS
    rw [if_neg (by simp), e1', e2']
  refine ⟨by rw [es, List.length_set]; exact h.len, hg, fun i hi => ?_⟩
  have := h.at_ i (List.mem_append_left _ hi)
  rw [es, getD_set_ne (fun e => hnd (by rw [e]; exact hi))]
  exact this
theorem Back.done {s : List (Bool × Int)} {k : Nat} (h : Back s k []) : Tb.addI s [] = k ∧ addG s [] = 0 := ⟨by rw [addI_nil, h.len], rfl⟩
/-- The order, as it came in. -/
def OrdC (w : World) (A : Option Addr) (xs : List Int) : Prop := 0 < xs.length → ∃ ad, A = some ad ∧ ∀ i, i < xs.length → w.cell? (ad.add i) = some (.int .u8 (xs.getD i 0))
set_option maxRecDepth 10000 in
set_option maxHeartbeats 8000000 in
theorem reuse_walk (n : Int) (A : Option Addr) (c : Nat) (ord : List Int) (w : World) (hn : 0 ≤ n ∧ n ≤ 255) (hC : OrdC w A ord) (hwf : ∀ x ∈ ord, 0 ≤ x ∧ x ≤ 255) :
    Calls Try.prog 3 #[.int .u8 n, .slice A ord.length c] w fun e w' => e = .returned (.bool true) ∧ Below w.heap.size w w' := by
  obtain ⟨k, hk⟩ : ∃ k : Nat, (k : Int) = n % 20 + 1 := ⟨(n % 20 + 1).toNat, by omega⟩
  have hk20 : 1 ≤ k ∧ k ≤ 20 := by omega
  have HC := Aside0.mk hC
  have HWF := Aside0.mk hwf
  obtain ⟨base, hbs⟩ : ∃ b, b = w.heap.size := ⟨_, rfl⟩
  have HBA := Aside0.mk (Nat.le_of_eq hbs)
  have HBE := Aside0.mk hbs
  clear hbs hC hwf
  by_cases hlen : 40 < ord.length
  · have h40 : (40 : Int) < (ord.length : Int) := by omega
    go_enter Try.func3, Try.ntmps3
    go_wp2_with fail
    refine (awake_calls w).mono ?_
    rintro e w1 ⟨rfl, hb1⟩
    have HB1 := Aside0.mk hb1
    clear hb1
    go_wp2_with fail
    go_ret
    exact ⟨rfl, HB1.out⟩
  · have h40 : ¬ (40 : Int) < (ord.length : Int) := by omega
    go_enter Try.func3, Try.ntmps3
    go_wp2_with fail
    refine (awake_calls w).mono ?_
    rintro e w1 ⟨rfl, hb1⟩
    have HB1 := Aside0.mk hb1
    clear hb1
    go_wp2_with fail
    refine (new_calls 1 w1 base (tg own0 0) (Nat.le_trans HBA.out HB1.out.size) (fun _ _ => rfl)).mono ?_
    rintro e w2 ⟨rfl, hT2, hF2⟩
    obtain ⟨g, hgw⟩ : ∃ g, g = w1.heap.size := ⟨_, rfl⟩
    rw [← hgw] at hT2
    rw [← hgw]
    have HT2 := Aside0.mk hT2
    have HB2 := Aside0.mk (show Below base w w2 from (HB1.out.mono HBA.out).trans hF2.b)
    clear hT2 hF2 hgw HB1
    go_wp2_with fail
    rw [← hk]
    have HK := Aside0.mk hk
    clear hk
    go_loopw [8, 9] (fun v i wr => ∃ (m : Nat) (own : Nat → Nat), m ≤ k ∧ i = .int .i64 m ∧ Aside0 (TB wr base (tg own 0) g 1 (slK m) []) ∧ Aside0 ((Kd.int .u64).R 27 wr base (tg own 1) v (hsK m)) ∧ Aside0 (Below base w wr)) (fun _ i _ => k - (intOf i).toNat)
    case atStart => exact ⟨0, own0, Nat.zero_le _, rfl, HT2, ⟨Kd.R_nil _ _ _ _ _⟩, HB2⟩
    case round =>
      obtain ⟨m, own, hm, rfl, hT, hV, hB⟩ := hrel
      clear HT2 HB2
      obtain ⟨Av, cv, hv⟩ := Kd.R_slice hV.out
      subst hv
      rw [hsK_len] at hV ⊢
      by_cases hlt : m < k
      · have hlt2 : (m : Int) < (k : Int) := by omega
        have HA := Aside0.mk (add_own hT.out (slK_good (by omega)) (by omega) (m : Int) (Nat.le_trans HBA.out hB.out.size))
        have hbz := Aside0.mk (Nat.le_trans HBA.out hB.out.size)
        go_wp2_with fail
        refine HA.out.mono ?_
        rintro e w3 ⟨rfl, hT3, hF3⟩
        rw [slK_add, addI_nil, addG_nil, sk_length, slK_len] at *
        have HT3 := Aside0.mk hT3
        have HV3 := Aside0.mk (R_pass hV.out hF3 (by decide))
        have HB3 := Aside0.mk (hB.out.trans hF3.b)
        clear hT3 hF3 HA
        go_wp2_with (at_builtin; refine app_own (Kd.int .u64) base rfl _ _ 26 27 _ 8 rfl Try.underlying26 info27 rfl (show 0 < 1 by decide) (by decide) (.slice Av m cv) (hsK m) (pk 1 m 0) [.int .u64 (pk 1 m 0)] (up own wr.heap.size 0) 1 rfl (by first | rfl | (go_simp; done) | (simp; done)) rfl HV3.out (Nat.le_trans HBA.out HB3.out.size) (by rw [hsK_len]; omega) ?_; intro v1 w6 hR6 hF6; have HR6 := Aside0.mk hR6; have HF6 := Aside0.mk hF6; clear hR6 hF6)
        rw [hsK_snoc] at HR6
        go_roundw
        case rel => exact ⟨m + 1, _, by omega, by go_num, ⟨TB_pass HT3.out HF6.out (by decide)⟩, HR6, ⟨HB3.out.trans HF6.out.b⟩⟩
        case measure => simp [intOf]; omega
      · have hmk : m = k := by omega
        subst hmk
        go_wp2_with fail
        have hm0 : 0 < m := hk20.1
        go_loopw [10, 11] (fun v i wr => ∃ (q : Nat) (F : List Nat) (sl : List S76) (own : Nat → Nat), q ≤ ord.length ∧ i = .int .i64 q ∧ Aside0 (Freed (sk sl) m F) ∧ Aside0 (TB wr base (tg own 0) g 1 sl (F.map fun (i : Nat) => (i : Int))) ∧ Aside0 ((Kd.int .u64).R 27 wr base (tg own 1) (.slice Av m cv) (hsK m)) ∧ Aside0 ((Kd.int .i64).R 3 wr base (tg own 2) v (F.map fun (i : Nat) => (i : Int))) ∧ Aside0 (Below base w wr)) (fun _ i _ => ord.length - (intOf i).toNat)
        case atStart => exact ⟨0, [], slK m, own, Nat.zero_le _, rfl, ⟨Freed.start (by omega)⟩, hT, hV, ⟨Kd.R_nil _ _ _ _ _⟩, hB⟩
        case round =>
          clear hT hV hB
          obtain ⟨q, F, sl, own2, hq, rfl, hFr, hT, hV, hW, hB⟩ := hrel
          obtain ⟨Af, cf, hv⟩ := Kd.R_slice hW.out
          subst hv
          rw [List.length_map] at hW ⊢
          by_cases hlt : q < ord.length
          · obtain ⟨ad, hA, hcell⟩ := HC.out (by omega)
            subst hA
            have hx := hcell q hlt
            obtain ⟨x, hxx⟩ : ∃ x, x = ord.getD q 0 := ⟨_, rfl⟩
            have hxr : 0 ≤ x ∧ x ≤ 255 := by rw [hxx, List.getD_eq_getElem?_getD, List.getElem?_eq_getElem hlt]; exact HWF.out _ (List.getElem_mem hlt)
            rw [← hxx] at hx
            have hblt := World.block_lt_of_cell? w _ hx
            have hx2 : wr.cell? (ad.add q) = some (.int .u8 x) := (hB.out.cell (by rw [HBE.out]; exact hblt)).trans hx
            clear hcell hx hxx hblt
            obtain ⟨j, hj⟩ : ∃ j : Nat, x % (m : Int) = j := ⟨(x % (m : Int)).toNat, by have := Int.emod_nonneg x (show (m : Int) ≠ 0 by omega); omega⟩
            have hjm : j < m := by have := Int.emod_lt_of_pos x (show (0 : Int) < m by omega); omega
            obtain ⟨hb, hc, he, hcj, _⟩ := row_at hV.out (i := j) (by rw [hsK_len]; exact hjm)
            rw [hsK_len] at he
            simp only [Value.slice.injEq, true_and] at he
            obtain ⟨he1, he2⟩ := he
            subst he1 he2
            obtain ⟨p, hp⟩ : ∃ p, p = pk 1 j 0 := ⟨_, rfl⟩
            have hpp := pk_parts (k := 1) (g := 0) (i := j) (by omega) (by omega) (by omega)
            have hlv := hFr.out.lv hjm (by omega)
            rw [hsK_get hjm, ← hp] at hcj
            rw [← hp] at hpp hlv
            have HPP := Aside0.mk hpp
            have HP0 := Aside0.mk (show 0 ≤ p ∧ p < 18446744073709551616 by omega)
            have HLV := Aside0.mk hlv
            clear hp hpp hlv
            have hin1 : 0 ≤ (q : Int) ∧ (q : Int) < (ord.length : Int) := by omega
            have hin2 : (q : Int) < (ord.length : Int) := by omega
            have hjn1 : 0 ≤ (j : Int) ∧ (j : Int) < (m : Int) := by omega
            have hjn2 : (j : Int) < (m : Int) := by omega
            by_cases cF : j ∈ F
            · have HD := Aside0.mk (drop_not hT.out p HP0.out.1 HP0.out.2 (by rw [HLV.out]; simp [cF]))
              go_wp2_with fail
              refine HD.out.mono ?_
              rintro e w3 ⟨rfl, hb3⟩
              have HT3 := Aside0.mk (hT.out.below hb3)
              have HV3 := Aside0.mk (Kd.R_below hV.out hb3)
              have HW3 := Aside0.mk (Kd.R_below hW.out hb3)
              have HB3 := Aside0.mk (hB.out.trans (hb3.mono (Nat.le_trans HBA.out hB.out.size)))
              clear hb3 HD
              go_wp2
              go_roundw
              case rel => exact ⟨q + 1, F, sl, own2, by omega, by go_num, hFr, HT3, HV3, HW3, HB3⟩
              case measure => simp [intOf]; omega
            · have HD := Aside0.mk (drop_own hT.out hFr.out.good p HP0.out.1 HP0.out.2 (Nat.le_trans HBA.out hB.out.size) (by rw [HLV.out]; simp [cF]))
              rw [HPP.out.2.2.1] at HD
              have hFl := Aside0.mk hFr.out.flen
              have HFD := Aside0.mk (hFr.out.drop hjm cF)
              rw [← sk_dropL] at HFD
              go_wp2_with fail
              refine HD.out.mono ?_
              rintro e w3 ⟨rfl, hT3, hF3⟩
              rw [show (F.map fun (i : Nat) => (i : Int)) ++ [(j : Int)] = (F ++ [j]).map fun (i : Nat) => (i : Int) from by simp] at hT3
              have HT3 := Aside0.mk hT3
              have HV3 := Aside0.mk (R_pass hV.out hF3 (by decide))
              have HW3 := Aside0.mk (R_pass hW.out hF3 (by decide))
              have HB3 := Aside0.mk (hB.out.trans hF3.b)
              clear hT3 hF3 HD
              go_wp2_with (at_builtin; refine app_own (Kd.int .i64) base rfl _ _ 29 3 _ 8 rfl Try.underlying29 info3 rfl (show 0 < 1 by decide) (by decide) (.slice Af F.length cf) (F.map fun (i : Nat) => (i : Int)) (j : Int) [.int .i64 (j : Int)] (up own2 wr.heap.size 0) 2 rfl (by first | rfl | (go_simp; done) | (simp; done)) rfl HW3.out (Nat.le_trans HBA.out HB3.out.size) (by rw [List.length_map]; have := hFl.out; omega) ?_; intro v1 w6 hR6 hF6; have HR6 := Aside0.mk hR6; have HF6 := Aside0.mk hF6; clear hR6 hF6)
              rw [show (F.map fun (i : Nat) => (i : Int)) ++ [(j : Int)] = (F ++ [j]).map fun (i : Nat) => (i : Int) from by simp] at HR6
              go_roundw
              case rel => exact ⟨q + 1, F ++ [j], _, _, by omega, by go_num, HFD, ⟨TB_pass HT3.out HF6.out (by decide)⟩, ⟨R_pass HV3.out HF6.out (by decide)⟩, HR6, ⟨HB3.out.trans HF6.out.b⟩⟩
              case measure => simp [intOf]; omega
          · have hqe : q = ord.length := by omega
            subst hqe
            have hFl := hFr.out.flen
            have hFlI : (F.length : Int) ≤ 20 := by omega
            go_wp2_with fail
            go_loopw [13] (fun i wr => ∃ (q : Nat) (sl : List S76) (own : Nat → Nat), q ≤ F.length ∧ i = .int .i64 ((q : Int) - 1) ∧ Aside0 (Back (sk sl) m (F.take q)) ∧ Aside0 (TB wr base (tg own 0) g 1 sl ((F.take q).map fun (i : Nat) => (i : Int))) ∧ Aside0 ((Kd.int .i64).R 3 wr base (tg own 2) (.slice Af F.length cf) (F.map fun (i : Nat) => (i : Int))) ∧ Aside0 (Below base w wr)) (fun i _ => (intOf i + 1).toNat)
            case atStart => exact ⟨F.length, sl, own2, Nat.le_refl _, rfl, ⟨by rw [List.take_length]; exact hFr.out.back⟩, ⟨by rw [List.take_length]; exact hT.out⟩, hW, hB⟩
            case round =>
              clear hFr hT hV hW hB
              obtain ⟨q, sl, own3, hq, rfl, hFr, hT, hW, hB⟩ := hrel
              cases q with
              | succ r =>
                have hr : r < F.length := by omega
                obtain ⟨x, hx⟩ : ∃ x, x = F[r] := ⟨_, rfl⟩
                have ht : F.take (r + 1) = F.take r ++ [x] := by rw [hx, List.take_succ_eq_append_getElem hr]
                rw [ht] at hFr hT
                have hi : (((r + 1 : Nat) : Int) - 1) = (r : Int) := by omega
                rw [hi]
                obtain ⟨fb, fc, he, hcx, _⟩ := row_at hW.out (i := r) (by rw [List.length_map]; exact hr)
                rw [List.length_map] at he
                simp only [Value.slice.injEq, true_and] at he
                obtain ⟨he1, he2⟩ := he
                subst he1 he2
                have hxg : (F.map fun (i : Nat) => (i : Int)).getD r 0 = (x : Int) := by
                  rw [List.getD_eq_getElem?_getD, List.getElem?_map, List.getElem?_eq_getElem hr, hx]; rfl
                rw [hxg] at hcx
                have hxm := (hFr.out.at_ x (by simp)).1
                obtain ⟨ea, eg, ed⟩ := hFr.out.addI
                have HA := Aside0.mk (add_own hT.out hFr.out.good (by omega) 9 (Nat.le_trans HBA.out hB.out.size))
                rw [ea, eg, ed] at HA
                have HFN := Aside0.mk (hFr.out.add (by omega))
                rw [← sk_addL (v := 9)] at HFN
                have hrin1 : 0 ≤ (r : Int) ∧ (r : Int) < (F.length : Int) := by omega
                have hrin2 : (r : Int) < (F.length : Int) := by omega
                have hHX := Aside0.mk hx
                clear hx ht hi hxg ea eg ed
                go_wp2_with fail
                refine HA.out.mono ?_
                rintro e w3 ⟨rfl, hT3, hF3⟩
                have HT3 := Aside0.mk hT3
                have HW3 := Aside0.mk (R_pass hW.out hF3 (by decide))
                have HB3 := Aside0.mk (hB.out.trans hF3.b)
                clear hT3 hF3 HA
                go_wp2_with fail
                refine (unpk_calls (k := 1) (g := 1) (i := x) (by omega) (by omega) (by omega) w3).mono ?_
                rintro e w4 ⟨rfl, hb4⟩
                have HT4 := Aside0.mk (HT3.out.below hb4)
                have HW4 := Aside0.mk (Kd.R_below HW3.out hb4)
                have HB4 := Aside0.mk (HB3.out.trans (hb4.mono (Nat.le_trans HBA.out HB3.out.size)))
                clear hb4
                obtain ⟨fb2, fc2, he, hcx4, _⟩ := row_at HW4.out (i := r) (by rw [List.length_map]; exact hr)
                simp only [Value.slice.injEq, Option.some.injEq, Addr.mk.injEq] at he
                have he1 := he.1.1
                subst he1
                have hxg : (F.map fun (i : Nat) => (i : Int)).getD r 0 = (x : Int) := by
                  rw [List.getD_eq_getElem?_getD, List.getElem?_map, List.getElem?_eq_getElem hr, hHX.out]; rfl
                rw [hxg] at hcx4
                clear he hxg
                go_wp2
                go_roundw
                case rel => exact ⟨r, _, _, by omega, by go_num, HFN, HT4, HW4, HB4⟩
                case measure => simp [intOf]
              | zero =>
                rw [List.take_zero] at hFr hT
                have HA := Aside0.mk (add_own hT.out hFr.out.good (by omega) 9 (Nat.le_trans HBA.out hB.out.size))
                rw [show (([] : List Nat).map fun (i : Nat) => (i : Int)) = [] from rfl, hFr.out.done.1, hFr.out.done.2] at HA
                go_wp2_with fail
                refine HA.out.mono ?_
                rintro e w3 ⟨rfl, hT3, hF3⟩
                have HT3 := Aside0.mk hT3
                have HB3 := Aside0.mk (hB.out.trans hF3.b)
                clear hT3 hF3 HA
                go_wp2_with fail
                refine (unpk_calls (k := 1) (g := 0) (i := m) (by omega) (by omega) (by omega) w3).mono ?_
                rintro e w4 ⟨rfl, hb4⟩
                have HT4 := Aside0.mk (HT3.out.below hb4)
                have HB4 := Aside0.mk (HB3.out.trans (hb4.mono (Nat.le_trans HBA.out HB3.out.size)))
                clear hb4
                have hal : ((addL sl [] 9).length : Int) - (([] : List Int).dropLast.length : Int) = (m : Int) + 1 := by
                  have := hFr.out.len
                  rw [sk_length] at this
                  unfold addL
                  rw [if_pos rfl, List.length_append]
                  simp; omega
                have HL := Aside0.mk (len_own HT4.out)
                rw [hal] at HL
                clear hal
                go_wp2_with fail
                refine HL.out.mono ?_
                rintro e w5 ⟨rfl, hb5⟩
                have HB5 := Aside0.mk (HB4.out.trans (hb5.mono (Nat.le_trans HBA.out HB4.out.size)))
                clear hb5
                go_wp2
                go_ret
                exact ⟨rfl, by rw [← HBE.out]; exact HB5.out⟩
theorem open_bytes {H : Type} {enc : TypeId × Value → H} {W : World} {base : Nat} {spare : Nat → Bool} {held : Bool} {a : Option Addr} {len cap : Nat} {d : DataW H} {p : List MemPlace}
    (h : DataW.Trod enc Try.prog W base spare held 22 (.slice a len cap) d p) : ∃ l : List Int, len = l.length ∧ l.length ≤ cap ∧ OrdC W a l ∧ ∀ x ∈ l, 0 ≤ x ∧ x ≤ 255 := by
  obtain ⟨fuel, hf⟩ := h
  rcases open_ints Try.underlying22 Try.underlying5 (by kernel_rfl) hf with ⟨hcs, _⟩ | ⟨x, l, c, zs, hcs, _, hl, hm, hz, _, hcell, hwz⟩
  · simp [Value.cells] at hcs
    obtain ⟨rfl, rfl, rfl⟩ := hcs
    exact ⟨[], rfl, Nat.le_refl _, fun h => absurd h (by simp), by simp⟩
  · simp [Value.cells] at hcs
    obtain ⟨rfl, rfl, rfl⟩ := hcs
    have hz2 : len ≤ zs.length := by rw [hz]; split <;> omega
    refine ⟨zs.take len, by simp; omega, by simp; omega, fun h0 => ⟨x, rfl, fun i hi => ?_⟩, fun y hy => bounds_u8 (hwz y (List.mem_of_mem_take hy))⟩
    have hi2 : i < len := by simp at hi; omega
    have := hcell i (by omega)
    rw [List.getD_eq_getElem?_getD, List.getElem?_take_of_lt hi2, ← List.getD_eq_getElem?_getD]
    exact this
end Go.Proofs.Ytgcbfbdhibbpdaa.Tb
