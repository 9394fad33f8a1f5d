import Derived.Test.YtcknoadoeonbjaaKHanR
namespace Go.Proofs.YtcknoadoeonbjaaK
open Go.RowKit
set_option linter.unusedSimpArgs false
set_option linter.unusedVariables false
theorem seeks_ex (u : Nat → Bool) (n : Nat → Int) (x : Int) : ∃ i, Seeks u n x i := by
  obtain ⟨i, h1, h2, h3⟩ := free_ex (fun j => !(u j && n j == x))
  refine ⟨i, h1, fun j hj h => ?_, fun hi => ?_⟩
  · have := h2 j hj
    simp [h.1, h.2] at this
  · have := h3 hi
    simpa using this
theorem Seeks.same {u : Nat → Bool} {n n' : Nat → Int} {x : Int} {i : Nat} (h : Seeks u n x i) (hn : ∀ j, j < 6 → u j = true → n j = n' j) : Seeks u n' x i := by
  obtain ⟨h1, h2, h3⟩ := h
  refine ⟨h1, fun j hj hh => h2 j hj ⟨hh.1, by rw [hn j (by omega) hh.1]; exact hh.2⟩, fun hi => ⟨(h3 hi).1, by rw [← hn i hi (h3 hi).1]; exact (h3 hi).2⟩⟩
/-- What stands in the two tables. -/
structure Two (w0 : World) (tb rb : Nat) (u : Nat → Bool) (m m' : Nat → Int) (w : World) : Prop where
  tab : Tbl w tb u m
  ref : RTbl w rb u m'
  bel : Below w0.heap.size w0 w
theorem Two.later {w0 w w1 : World} {tb rb : Nat} {u : Nat → Bool} {m m' : Nat → Int} (h : Two w0 tb rb u m m' w) (hb : Below w.heap.size w w1) : Two w0 tb rb u m m' w1 := ⟨h.tab.below hb, h.ref.below hb, h.bel.trans (hb.mono h.bel.size)⟩
theorem Two.drew {w0 w : World} {tb rb : Nat} {u : Nat → Bool} {m m' : Nat → Int} (h : Two w0 tb rb u m m' w) : Two w0 tb rb u m m' w.drew := h.later (Below.refl _ _).drew
/-- A handle, or none. -/
theorem hand_or (u : Nat → Bool) (h : Int) : (∃ i : Nat, i < 6 ∧ h = (i : Int) + 1 ∧ u i = true) ∨ (h < 1 ∨ 6 < h ∨ ∃ i : Nat, i < 6 ∧ h = (i : Int) + 1 ∧ u i = false) := by
  by_cases h1 : h < 1
  · exact .inr (.inl h1)
  · by_cases h6 : 6 < h
    · exact .inr (.inr (.inl h6))
    · cases hu : u (h - 1).toNat with
      | true => exact .inl ⟨(h - 1).toNat, by omega, by omega, hu⟩
      | false => exact .inr (.inr (.inr ⟨(h - 1).toNat, by omega, by omega, hu⟩))
/-- Get of both tables answers alike. -/
theorem get_both (tb rb : Nat) (u : Nat → Bool) (m m' : Nat → Int) (x : Int) (hn : ∀ j, j < 6 → u j = true → m j = m' j) : ∃ r e : Int,
    (∀ W, Tbl W tb u m → Calls Try.prog 38 #[.pointer (some ⟨tb, 0, none⟩), .int .i64 x] W fun e' w' => e' = .returned (.tuple #[.int .i64 r, .int .i64 e]) ∧ W = w') ∧
    (∀ W, RTbl W rb u m' → Calls Try.prog 39 #[.pointer (some ⟨rb, 0, none⟩), .int .i64 x] W fun e' w' => e' = .returned (.tuple #[.int .i64 r, .int .i64 e]) ∧ W = w') := by
  rcases hand_or u x with ⟨i, hi, rfl, hu⟩ | h
  · refine ⟨m i, 0, fun W hT => get_some tb u m i W hT hi hu, fun W hT => ?_⟩
    rw [hn i hi hu]
    exact rget_some rb u m' i _ W hT hi rfl hu
  · exact ⟨0, 66, fun W hT => get_none tb u m x W hT h, fun W hT => rget_none rb u m' x W hT h⟩
theorem uses_both (tb rb : Nat) (u : Nat → Bool) (m m' : Nat → Int) (hn : ∀ j, j < 6 → u j = true → m j = m' j) : ∃ r : Int → Bool,
    (∀ x W, Tbl W tb u m → Calls Try.prog 40 #[.pointer (some ⟨tb, 0, none⟩), .int .i64 x] W fun e' w' => e' = .returned (.bool (r x)) ∧ Below W.heap.size W w') ∧
    (∀ x W, RTbl W rb u m' → Calls Try.prog 41 #[.pointer (some ⟨rb, 0, none⟩), .int .i64 x] W fun e' w' => e' = .returned (.bool (r x)) ∧ W = w') := by
  refine ⟨fun x => decide ((Classical.choose (seeks_ex u m x)) < 6), fun x W hT => uses_any tb u m x _ W hT (Classical.choose_spec (seeks_ex u m x)), fun x W hT => ruses_any rb u m' x _ W hT ((Classical.choose_spec (seeks_ex u m x)).same hn)⟩
theorem keep3 {w0 w w1 : World} {tb rb ob : Nat} {u : Nat → Bool} {m m' : Nat → Int} {K N : Int} (h : w.cell? ⟨ob, 0, none⟩ = some (.int .i64 K) ∧ w.cell? ⟨ob, 1, none⟩ = some (.int .i64 N) ∧ Two w0 tb rb u m m' w) (hb : Below w.heap.size w w1) :
    w1.cell? ⟨ob, 0, none⟩ = some (.int .i64 K) ∧ w1.cell? ⟨ob, 1, none⟩ = some (.int .i64 N) ∧ Two w0 tb rb u m m' w1 := ⟨cell_later hb h.1, cell_later hb h.2.1, h.2.2.later hb⟩
theorem get_tab3 {w0 w : World} {tb rb ob : Nat} {u : Nat → Bool} {m m' : Nat → Int} {K N : Int} (h : w.cell? ⟨ob, 0, none⟩ = some (.int .i64 K) ∧ w.cell? ⟨ob, 1, none⟩ = some (.int .i64 N) ∧ Two w0 tb rb u m m' w) : Tbl w tb u m := h.2.2.tab
theorem get_ref3 {w0 w : World} {tb rb ob : Nat} {u : Nat → Bool} {m m' : Nat → Int} {K N : Int} (h : w.cell? ⟨ob, 0, none⟩ = some (.int .i64 K) ∧ w.cell? ⟨ob, 1, none⟩ = some (.int .i64 N) ∧ Two w0 tb rb u m m' w) : RTbl w rb u m' := h.2.2.ref
theorem get_two3 {w0 w : World} {tb rb ob : Nat} {u : Nat → Bool} {m m' : Nat → Int} {K N : Int} (h : w.cell? ⟨ob, 0, none⟩ = some (.int .i64 K) ∧ w.cell? ⟨ob, 1, none⟩ = some (.int .i64 N) ∧ Two w0 tb rb u m m' w) : Two w0 tb rb u m m' w := h.2.2
set_option maxRecDepth 100000 in
set_option maxHeartbeats 40000000 in
theorem handlePlays_walk (A : Option Addr) (n c : Nat) (ps : List (Int × Int)) (w : World) (hX : Prs w (.slice A n c) ps) :
    Calls Try.prog 13 #[.slice A n c] w fun e w' => e = .returned (.bool true) ∧ Below w.heap.size w w' := by
  have HN := Lib.hid hX.len
  by_cases h50 : 200 < n
  · clear hX
    go_enter Try.func13, Try.ntmps13
    go_wp2_with (go_at_call 32; refine (han_speaks _).mono ?_; rintro e w' ⟨rfl, hb⟩)
    go_ret
    exact ⟨rfl, ‹_›⟩
  go_enter Try.func13, Try.ntmps13
  go_wp2_with (first | (go_at_call 32; refine (han_speaks _).mono ?_; rintro e w1 ⟨rfl, hb⟩) | (go_at_call 33; refine (new_tab _).mono ?_; rintro e w2 ⟨tb, rfl, hbl, hT, hb2⟩))
  obtain ⟨rb, hrb⟩ : ∃ rb, rb = w2.heap.size := ⟨_, rfl⟩
  obtain ⟨W, hW⟩ : ∃ W, W = w2.alloc (Obj.cells #[Value.bool false, Value.bool false, Value.bool false, Value.bool false, Value.bool false, Value.bool false, Value.bool false, .int .i64 0, .int .i64 0, .int .i64 0, .int .i64 0, .int .i64 0, .int .i64 0, .int .i64 0] 67) := ⟨_, rfl⟩
  have hr : RTbl W rb (fun _ => false) (fun _ => 0) := by
    rw [hW, hrb]
    exact ⟨_, heap_alloc_new w2 _, rfl, fun i hi => by match i, hi with | 0, _ => exact ⟨rfl, rfl⟩ | 1, _ => exact ⟨rfl, rfl⟩ | 2, _ => exact ⟨rfl, rfl⟩ | 3, _ => exact ⟨rfl, rfl⟩ | 4, _ => exact ⟨rfl, rfl⟩ | 5, _ => exact ⟨rfl, rfl⟩⟩
  have hT2 : Tbl W tb (fun _ => false) (fun _ => 0) := by rw [hW]; exact hT.below ((Below.refl _ _).alloc (Nat.le_refl _) _)
  have hs1 := hb.size
  have hs2 := hb2.size
  have hbW : Below w.heap.size w W := by rw [hW]; exact (hb.trans (hb2.mono hs1)).alloc (by omega) _
  have hne : tb ≠ rb := by
    obtain ⟨cs, h1, _⟩ := hT
    rw [hrb]
    exact Nat.ne_of_lt (Array.getElem?_eq_some_iff.1 h1).1
  have hge : w.heap.size ≤ tb ∧ w.heap.size ≤ rb := ⟨by omega, by omega⟩
  have HNE := Lib.hid hne
  rw [← hW, ← hrb]
  clear hW hrb hne hT hb hb2 hbl hs1 hs2
  go_loopw [6, 7, 8, 9, 10, 11, 12, 13, 14, 27] (fun v6 v7 v8 v9 v10 v11 v12 v13 v14 i wr => ∃ (k : Nat) (u : Nat → Bool) (m m' : Nat → Int), k ≤ n ∧ i = .int .i64 k ∧ Two w tb rb u m m' wr ∧ (∀ j, j < 6 → u j = true → m j = m' j)) (fun _ _ _ _ _ _ _ _ _ i _ => n - (intOf i).toNat)
  case atStart => exact ⟨0, fun _ => false, fun _ => 0, fun _ => 0, Nat.zero_le _, rfl, ⟨hT2, hr, hbW⟩, fun _ _ _ => rfl⟩
  case round =>
    obtain ⟨k, u, m, m', hk, rfl, h2, hmm⟩ := hrel
    clear hT2 hr hbW
    have hb := h2.bel
    by_cases hlt : k < n
    · have hkx : k < ps.length := by rw [← HN.out]; exact hlt
      obtain ⟨a, rfl, hc0, hc1⟩ := (hX.below hb).at k hkx
      obtain ⟨K, hK⟩ : ∃ K, K = ps[k].1 := ⟨_, rfl⟩
      obtain ⟨N, hN⟩ : ∃ N, N = ps[k].2 := ⟨_, rfl⟩
      rw [← hK] at hc0
      rw [← hN] at hc1
      clear hK hN
      rw [add_succ a (k * 2) 1 (by decide)] at hc1
      have hsz := hb.size
      have hKb := i64_and_low 2 (by decide) K
      obtain ⟨q, hq⟩ : ∃ q : Nat, q = (K % ((2 ^ 2 : Nat) : Int)).toNat := ⟨_, rfl⟩
      rw [← hq] at hKb
      clear hq
      have hKb : bits .and .i64 K 3 = (q : Int) := hKb
      have h2a := h2.later ((Below.refl _ _).alloc (Nat.le_refl _) (Obj.cells #[.int .i64 K, .int .i64 N] 57))
      have hoc0 : (wr.alloc (Obj.cells #[.int .i64 K, .int .i64 N] 57)).cell? ⟨wr.heap.size, 0, none⟩ = some (.int .i64 K) := cell_of_row _ _ 0 _ _ _ (heap_alloc_new wr _)
      have hoc1 : (wr.alloc (Obj.cells #[.int .i64 K, .int .i64 N] 57)).cell? ⟨wr.heap.size, 1, none⟩ = some (.int .i64 N) := cell_of_row _ _ 1 _ _ _ (heap_alloc_new wr _)
      have hlo : wr.heap.size < (wr.alloc (Obj.cells #[.int .i64 K, .int .i64 N] 57)).heap.size := by simp
      by_cases hq0 : q = 0
      · subst hq0
        go_wp2
        obtain ⟨W2, hW2⟩ : ∃ W2, W2 = wr.alloc (Obj.cells #[.int .i64 K, .int .i64 N] 57) := ⟨_, rfl⟩
        obtain ⟨ob, hob⟩ : ∃ ob, ob = wr.heap.size := ⟨_, rfl⟩
        have hga := hge.1
        have hgb := hge.2
        have hot : ob ≠ tb ∧ ob ≠ rb := by
          obtain ⟨cs, h1, _⟩ := h2.tab
          obtain ⟨ds, g1, _⟩ := h2.ref
          have := (Array.getElem?_eq_some_iff.1 h1).1
          have := (Array.getElem?_eq_some_iff.1 g1).1
          omega
        have HOT := Lib.hid hot
        rw [← hW2] at h2a hoc0 hoc1 hlo
        rw [← hob] at hoc0 hoc1 hlo
        rw [← hW2, ← hob]
        clear hot hob hW2
        rcases hand_or u N with ⟨i, hi, hNi, hui⟩ | hno
        · have HC := Lib.hid (fun W hT => close_some' tb u m i N W hNi hT hi hui)
          have HR := Lib.hid (fun W hT => rclose_some rb u m' i N W hT hi hNi hui)
          clear hNi
          go_region_held3 (fun w' => w'.cell? ⟨ob, 1, none⟩ = some (.int .i64 N)) (first | assumption | exact hoc1)
            ((first
              | (go_at_call 34; refine (HC.out _ (by exact h2a.tab)).mono ?_; rintro e w3 ⟨rfl, hT3, hg3⟩; have hR3 := h2a.ref.grown (grown_drew hg3) (Ne.symm HNE.out); have hb3 := h2a.bel.grown (grown_drew hg3) h2a.bel.size (fun k hk => by injection hk with hk; omega); have hoc0' := (grown_drew hg3).cell hoc0 (by simpa using HOT.out.1); have hoc1' := (grown_drew hg3).cell hoc1 (by simpa using HOT.out.1))
              | (go_at_call 36; refine (HR.out _ (by exact hR3)).mono ?_; rintro e w4 ⟨rfl, hR4, hg4⟩; have hT4 := hT3.grown hg4 HNE.out; have hb4 := hb3.grown hg4 hb3.size (fun k hk => by injection hk with hk; omega); have hoc0t := hg4.cell hoc0' (by simpa using HOT.out.2); have hoc1t := hg4.cell hoc1' (by simpa using HOT.out.2))))
          all_goals
            obtain ⟨u3, hu3⟩ : ∃ x, x = put u i false := ⟨_, rfl⟩
            obtain ⟨m3, hm3⟩ : ∃ x, x = put m i 0 := ⟨_, rfl⟩
            obtain ⟨m3', hm3'⟩ : ∃ x, x = m' := ⟨_, rfl⟩
            have hmm3 : ∀ j, j < 6 → u3 j = true → m3 j = m3' j := by
              intro j hj hu
              rw [hu3] at hu
              rw [hm3, hm3']
              unfold put at hu ⊢
              by_cases e : j = i
              · rw [if_pos e] at hu; cases hu
              · rw [if_neg e] at hu
                rw [if_neg e]
                exact hmm j hj hu
            rw [← hu3, ← hm3] at hT4
            rw [← hu3, ← hm3'] at hR4
            have h3 : Two w tb rb u3 m3 m3' w4 := ⟨hT4, hR4, hb4⟩
            clear hu3 hm3 hm3' hT3 hR3 hT4 hR4 hg3 hg4 hoc0 hoc1 hoc0' hoc1' hb3 hb4
            obtain ⟨gr, ge, hG1, hG2⟩ := get_both tb rb u3 m3 m3' N hmm3
            obtain ⟨ur, hU1, hU2⟩ := uses_both tb rb u3 m3 m3' hmm3
            have HG1 := Lib.hid hG1
            have HG2 := Lib.hid hG2
            have HU1 := Lib.hid hU1
            have HU2 := Lib.hid hU2
            clear hG1 hG2 hU1 hU2
            have hT3 := h3.tab
            have hR3 := h3.ref
            have hB3 := h3.bel
            go_wp2_with (first
              | (go_at_call 38; refine (HG1.out _ (by exact hT3)).mono ?_; rintro e w8 ⟨rfl, rfl⟩)
              | (go_at_call 39; refine (HG2.out _ (by exact hR3)).mono ?_; rintro e w8 ⟨rfl, rfl⟩))
            go_region_held3 (fun w' => w'.cell? ⟨ob, 0, none⟩ = some (.int .i64 K) ∧ w'.cell? ⟨ob, 1, none⟩ = some (.int .i64 N) ∧ Two w tb rb u3 m3 m3' w') (first | exact ⟨hoc0t, hoc1t, h3.drew⟩ | assumption)
              ((first
                | (go_at_call 40; refine (HU1.out _ _ (get_tab3 (w0 := w) (rb := rb) (ob := ob) (m' := m3') (K := K) (N := N) (by assumption))).mono ?_; rintro e w5 ⟨rfl, hb5⟩; have hS5 := keep3 (w0 := w) (tb := tb) (rb := rb) (ob := ob) (u := u3) (m := m3) (m' := m3') (K := K) (N := N) (by assumption) hb5)
                | (go_at_call 41; refine (HU2.out _ _ (get_ref3 (w0 := w) (tb := tb) (ob := ob) (m := m3) (K := K) (N := N) (by assumption))).mono ?_; rintro e w5 ⟨rfl, rfl⟩)))
            all_goals
              have hend := get_two3 (w0 := w) (tb := tb) (rb := rb) (ob := ob) (u := u3) (m := m3) (m' := m3') (K := K) (N := N) (by assumption)
              go_wp2
              go_roundw
              case rel => exact ⟨k + 1, u3, m3, m3', by omega, by go_num, hend, hmm3⟩
              case measure => simp [intOf]; omega
        · have HC := Lib.hid (fun W hT => close_none tb u m N W hT hno)
          have HR := Lib.hid (fun W hT => rclose_none rb u m' N W hT hno)
          clear hno
          go_quiet ((first | (go_at_call 34; exact Calls.quiet_of_same ((HC.out _ (by exact h2a.tab)).mono fun _ _ h => ⟨h.1, h.2.symm⟩)) | (go_at_call 36; exact Calls.quiet_of_same ((HR.out _ (by exact h2a.ref)).mono fun _ _ h => ⟨h.1, h.2.symm⟩))))
          obtain ⟨w4, hw4⟩ : ∃ x, x = W2.drewN nq := ⟨_, rfl⟩
          have hd : Below W2.heap.size W2 w4 := by rw [hw4]; exact below_drewN (Below.refl _ _)
          rw [← hw4]
          clear hw4
          have hoc0t := cell_later hd hoc0
          have hoc1t := cell_later hd hoc1
          have h4 := h2a.later hd
          obtain ⟨u3, hu3⟩ : ∃ x, x = u := ⟨_, rfl⟩
          obtain ⟨m3, hm3⟩ : ∃ x, x = m := ⟨_, rfl⟩
          obtain ⟨m3', hm3'⟩ : ∃ x, x = m' := ⟨_, rfl⟩
          have hmm3 : ∀ j, j < 6 → u3 j = true → m3 j = m3' j := by rw [hu3, hm3, hm3']; exact hmm
          have h3 : Two w tb rb u3 m3 m3' w4 := by rw [hu3, hm3, hm3']; exact h4
          clear hu3 hm3 hm3' h4 hoc0 hoc1
          obtain ⟨gr, ge, hG1, hG2⟩ := get_both tb rb u3 m3 m3' N hmm3
          obtain ⟨ur, hU1, hU2⟩ := uses_both tb rb u3 m3 m3' hmm3
          have HG1 := Lib.hid hG1
          have HG2 := Lib.hid hG2
          have HU1 := Lib.hid hU1
          have HU2 := Lib.hid hU2
          clear hG1 hG2 hU1 hU2
          have hT3 := h3.tab
          have hR3 := h3.ref
          have hB3 := h3.bel
          go_wp2_with (first
            | (go_at_call 38; refine (HG1.out _ (by exact hT3)).mono ?_; rintro e w8 ⟨rfl, rfl⟩)
            | (go_at_call 39; refine (HG2.out _ (by exact hR3)).mono ?_; rintro e w8 ⟨rfl, rfl⟩))
          go_region_held3 (fun w' => w'.cell? ⟨ob, 0, none⟩ = some (.int .i64 K) ∧ w'.cell? ⟨ob, 1, none⟩ = some (.int .i64 N) ∧ Two w tb rb u3 m3 m3' w') (first | exact ⟨hoc0t, hoc1t, h3.drew⟩ | assumption)
            ((first
              | (go_at_call 40; refine (HU1.out _ _ (get_tab3 (w0 := w) (rb := rb) (ob := ob) (m' := m3') (K := K) (N := N) (by assumption))).mono ?_; rintro e w5 ⟨rfl, hb5⟩; have hS5 := keep3 (w0 := w) (tb := tb) (rb := rb) (ob := ob) (u := u3) (m := m3) (m' := m3') (K := K) (N := N) (by assumption) hb5)
              | (go_at_call 41; refine (HU2.out _ _ (get_ref3 (w0 := w) (tb := tb) (ob := ob) (m := m3) (K := K) (N := N) (by assumption))).mono ?_; rintro e w5 ⟨rfl, rfl⟩)))
          all_goals
            have hend := get_two3 (w0 := w) (tb := tb) (rb := rb) (ob := ob) (u := u3) (m := m3) (m' := m3') (K := K) (N := N) (by assumption)
            go_wp2
            go_roundw
            case rel => exact ⟨k + 1, u3, m3, m3', by omega, by go_num, hend, hmm3⟩
            case measure => simp [intOf]; omega
      · have hq1 : 0 < q := by omega
        have hq0' : ((q : Int) == 0) = false := by rw [beq_eq_false_iff_ne]; omega
        obtain ⟨W2, hW2⟩ : ∃ W2, W2 = wr.alloc (Obj.cells #[.int .i64 K, .int .i64 N] 57) := ⟨_, rfl⟩
        obtain ⟨ob, hob⟩ : ∃ ob, ob = wr.heap.size := ⟨_, rfl⟩
        obtain ⟨i, hF⟩ := free_ex u
        have hga := hge.1
        have hgb := hge.2
        have hot : ob ≠ tb ∧ ob ≠ rb := by
          obtain ⟨cs, h1, _⟩ := h2.tab
          obtain ⟨ds, g1, _⟩ := h2.ref
          have := (Array.getElem?_eq_some_iff.1 h1).1
          have := (Array.getElem?_eq_some_iff.1 g1).1
          omega
        have HOT := Lib.hid hot
        have HW2 := Lib.hid hW2
        have HOB := Lib.hid hob
        rw [← hW2] at h2a hoc0 hoc1 hlo
        rw [← hob] at hoc0 hoc1 hlo
        clear hq0 hot hob hW2
        by_cases h6 : i < 6
        · have HO := Lib.hid (open_any tb u m N i W2 h2a.tab hF h6)
          have HP := Lib.hid (fun W hR => ropen_any rb u m' N i W hR hF h6)
          clear hF
          go_wp2_with (first
            | (rw [← HW2.out, ← HOB.out]; fail)
            | (go_at_call 35; rw [← HW2.out, ← HOB.out]; refine HO.out.mono ?_; rintro e w3 ⟨rfl, hT3, hg3⟩; have hR3 := h2a.ref.grown hg3 (Ne.symm HNE.out); have hb3 := h2a.bel.grown hg3 h2a.bel.size (fun k hk => by injection hk with hk; omega); have hoc0' := hg3.cell hoc0 (by simpa using HOT.out.1); have hoc1' := hg3.cell hoc1 (by simpa using HOT.out.1))
            | (go_at_call 37; refine (HP.out _ hR3).mono ?_; rintro e w4 ⟨rfl, hR4, hg4⟩; have hT4 := hT3.grown hg4 HNE.out; have hb4 := hb3.grown hg4 hb3.size (fun k hk => by injection hk with hk; omega); have hoc0t := hg4.cell hoc0' (by simpa using HOT.out.2); have hoc1t := hg4.cell hoc1' (by simpa using HOT.out.2)))
          obtain ⟨u3, hu3⟩ : ∃ x, x = put u i true := ⟨_, rfl⟩
          obtain ⟨m3, hm3⟩ : ∃ x, x = put m i N := ⟨_, rfl⟩
          obtain ⟨m3', hm3'⟩ : ∃ x, x = put m' i N := ⟨_, rfl⟩
          have hmm3 : ∀ j, j < 6 → u3 j = true → m3 j = m3' j := by
            intro j hj hu
            rw [hu3] at hu
            rw [hm3, hm3']
            unfold put at hu ⊢
            by_cases e : j = i
            · rw [if_pos e, if_pos e]
            · rw [if_neg e] at hu
              rw [if_neg e, if_neg e]
              exact hmm j hj hu
          rw [← hu3, ← hm3] at hT4
          rw [← hu3, ← hm3'] at hR4
          have h3 : Two w tb rb u3 m3 m3' w4 := ⟨hT4, hR4, hb4⟩
          clear hu3 hm3 hm3' hT3 hR3 hT4 hR4 hg3 hg4 hoc0 hoc1 hoc0' hoc1' hb3 hb4
          obtain ⟨gr, ge, hG1, hG2⟩ := get_both tb rb u3 m3 m3' N hmm3
          obtain ⟨ur, hU1, hU2⟩ := uses_both tb rb u3 m3 m3' hmm3
          have HG1 := Lib.hid hG1
          have HG2 := Lib.hid hG2
          have HU1 := Lib.hid hU1
          have HU2 := Lib.hid hU2
          clear hG1 hG2 hU1 hU2
          have hT3 := h3.tab
          have hR3 := h3.ref
          have hB3 := h3.bel
          go_wp2_with (first
            | (go_at_call 38; refine (HG1.out _ (by exact hT3)).mono ?_; rintro e w8 ⟨rfl, rfl⟩)
            | (go_at_call 39; refine (HG2.out _ (by exact hR3)).mono ?_; rintro e w8 ⟨rfl, rfl⟩))
          go_region_held3 (fun w' => w'.cell? ⟨ob, 0, none⟩ = some (.int .i64 K) ∧ w'.cell? ⟨ob, 1, none⟩ = some (.int .i64 N) ∧ Two w tb rb u3 m3 m3' w') (first | exact ⟨hoc0t, hoc1t, h3.drew⟩ | assumption)
            ((first
              | (go_at_call 40; refine (HU1.out _ _ (get_tab3 (w0 := w) (rb := rb) (ob := ob) (m' := m3') (K := K) (N := N) (by assumption))).mono ?_; rintro e w5 ⟨rfl, hb5⟩; have hS5 := keep3 (w0 := w) (tb := tb) (rb := rb) (ob := ob) (u := u3) (m := m3) (m' := m3') (K := K) (N := N) (by assumption) hb5)
              | (go_at_call 41; refine (HU2.out _ _ (get_ref3 (w0 := w) (tb := tb) (ob := ob) (m := m3) (K := K) (N := N) (by assumption))).mono ?_; rintro e w5 ⟨rfl, rfl⟩)))
          all_goals
            have hend := get_two3 (w0 := w) (tb := tb) (rb := rb) (ob := ob) (u := u3) (m := m3) (m' := m3') (K := K) (N := N) (by assumption)
            go_wp2
            go_roundw
            case rel => exact ⟨k + 1, u3, m3, m3', by omega, by go_num, hend, hmm3⟩
            case measure => simp [intOf]; omega
        · obtain rfl : i = 6 := by have := hF.1; omega
          have HO := Lib.hid (open_full tb u m N W2 h2a.tab hF)
          have HP := Lib.hid (fun W hR => ropen_full rb u m' N W hR hF)
          clear hF
          go_wp2_with (first
            | (rw [← HW2.out, ← HOB.out]; fail)
            | (go_at_call 35; rw [← HW2.out, ← HOB.out]; refine HO.out.mono ?_; rintro e w4 ⟨rfl, hb3⟩; have h4 := h2a.later hb3; have hR4 := h4.ref; have hoc0t := cell_later hb3 hoc0; have hoc1t := cell_later hb3 hoc1)
            | (go_at_call 37; refine (HP.out _ hR4).mono ?_; rintro e w5 ⟨rfl, rfl⟩))
          obtain ⟨u3, hu3⟩ : ∃ x, x = u := ⟨_, rfl⟩
          obtain ⟨m3, hm3⟩ : ∃ x, x = m := ⟨_, rfl⟩
          obtain ⟨m3', hm3'⟩ : ∃ x, x = m' := ⟨_, rfl⟩
          have hmm3 : ∀ j, j < 6 → u3 j = true → m3 j = m3' j := by rw [hu3, hm3, hm3']; exact hmm
          have h3 : Two w tb rb u3 m3 m3' w4 := by rw [hu3, hm3, hm3']; exact h4
          clear hu3 hm3 hm3' hR4 h4 hoc0 hoc1
          obtain ⟨gr, ge, hG1, hG2⟩ := get_both tb rb u3 m3 m3' N hmm3
          obtain ⟨ur, hU1, hU2⟩ := uses_both tb rb u3 m3 m3' hmm3
          have HG1 := Lib.hid hG1
          have HG2 := Lib.hid hG2
          have HU1 := Lib.hid hU1
          have HU2 := Lib.hid hU2
          clear hG1 hG2 hU1 hU2
          have hT3 := h3.tab
          have hR3 := h3.ref
          have hB3 := h3.bel
          go_wp2_with (first
            | (go_at_call 38; refine (HG1.out _ (by exact hT3)).mono ?_; rintro e w8 ⟨rfl, rfl⟩)
            | (go_at_call 39; refine (HG2.out _ (by exact hR3)).mono ?_; rintro e w8 ⟨rfl, rfl⟩))
          go_region_held3 (fun w' => w'.cell? ⟨ob, 0, none⟩ = some (.int .i64 K) ∧ w'.cell? ⟨ob, 1, none⟩ = some (.int .i64 N) ∧ Two w tb rb u3 m3 m3' w') (first | exact ⟨hoc0t, hoc1t, h3.drew⟩ | assumption)
            ((first
              | (go_at_call 40; refine (HU1.out _ _ (get_tab3 (w0 := w) (rb := rb) (ob := ob) (m' := m3') (K := K) (N := N) (by assumption))).mono ?_; rintro e w5 ⟨rfl, hb5⟩; have hS5 := keep3 (w0 := w) (tb := tb) (rb := rb) (ob := ob) (u := u3) (m := m3) (m' := m3') (K := K) (N := N) (by assumption) hb5)
              | (go_at_call 41; refine (HU2.out _ _ (get_ref3 (w0 := w) (tb := tb) (ob := ob) (m := m3) (K := K) (N := N) (by assumption))).mono ?_; rintro e w5 ⟨rfl, rfl⟩)))
          all_goals
            have hend := get_two3 (w0 := w) (tb := tb) (rb := rb) (ob := ob) (u := u3) (m := m3) (m' := m3') (K := K) (N := N) (by assumption)
            go_wp2
            go_roundw
            case rel => exact ⟨k + 1, u3, m3, m3', by omega, by go_num, hend, hmm3⟩
            case measure => simp [intOf]; omega
    · obtain rfl : k = n := by omega
      go_wp2
      go_ret
      exact ⟨rfl, hb⟩
end Go.Proofs.YtcknoadoeonbjaaK
