import Derived.Test.YtcknoadoeonbjaaKHanT
import Derived.Deep.RegionHeld3
namespace Go.Proofs.YtcknoadoeonbjaaK
open Go.RowKit
set_option linter.unusedSimpArgs false
set_option linter.unusedVariables false
/-- A slice of pairs of whole numbers, readable in w. -/
def Prs (w : World) (v : Value) (ps : List (Int × Int)) : Prop :=
  ∃ A c, v = .slice A ps.length c ∧ ps.length ≤ c ∧ ps.length ≤ 9223372036854775807 ∧ ∀ j (h : j < ps.length), ∃ a, A = some a ∧ w.cell? (a.add (j * 2)) = some (.int .i64 ps[j].1) ∧ w.cell? (a.add (j * 2 + 1)) = some (.int .i64 ps[j].2)
theorem add_succ (a : Addr) (k i : Nat) (hi : 0 < i) : a.add (k + i) = ⟨(a.add k).block, (a.add k).off + i, none⟩ := by
  unfold Addr.add
  rw [if_neg (by omega)]
  split
  · rename_i h; subst h; simp
  · simp [Nat.add_assoc]
theorem Prs.len {w : World} {A : Option Addr} {n c : Nat} {ps : List (Int × Int)} (h : Prs w (.slice A n c) ps) : n = ps.length := by
  obtain ⟨A', c', he, _⟩ := h
  injection he with e1 e2 e3
theorem Prs.at {w : World} {A : Option Addr} {n c : Nat} {ps : List (Int × Int)} (h : Prs w (.slice A n c) ps) (j : Nat) (hj : j < ps.length) :
    ∃ a, A = some a ∧ w.cell? (a.add (j * 2)) = some (.int .i64 ps[j].1) ∧ w.cell? (a.add (j * 2 + 1)) = some (.int .i64 ps[j].2) := by
  obtain ⟨A', c', he, _, _, h4⟩ := h
  injection he with e1 e2 e3
  rw [e1]; exact h4 j hj
theorem Prs.below {w w1 : World} {v : Value} {ps : List (Int × Int)} (h : Prs w v ps) (hb : Below w.heap.size w w1) : Prs w1 v ps := by
  obtain ⟨A, c, h1, h2, h3, h4⟩ := h
  refine ⟨A, c, h1, h2, h3, fun j hj => ?_⟩
  obtain ⟨a, ha, hc, hd⟩ := h4 j hj
  exact ⟨a, ha, cell_later hb hc, cell_later hb hd⟩
/-- An array of eight. -/
def Arr8 (w : World) (e : Nat) (f : Nat → Bool) : Prop := ∃ cs, w.heap[e]? = some (.cells cs 55 (0, 0)) ∧ cs.size = 8 ∧ ∀ i, i < 8 → cs[i]? = some (.bool (f i))
theorem Arr8.below {w w1 : World} {b : Nat} {f : Nat → Bool} (h : Arr8 w b f) (hb : Below w.heap.size w w1) : Arr8 w1 b f := by
  obtain ⟨cs, h1, h2⟩ := h
  exact ⟨cs, (hb.block b (Array.getElem?_eq_some_iff.1 h1).1).trans h1, h2⟩
theorem Arr8.grown {w w1 : World} {b b2 : Nat} {f : Nat → Bool} (h : Arr8 w b f) (hg : w.grownBy w1 (some b2)) (hne : b ≠ b2) : Arr8 w1 b f := by
  obtain ⟨cs, h1, h2⟩ := h
  exact ⟨cs, (hg.block b (Array.getElem?_eq_some_iff.1 h1).1 (by simpa using hne)).trans h1, h2⟩
theorem Arr8.cell {w : World} {b : Nat} {f : Nat → Bool} (h : Arr8 w b f) (i : Nat) (hi : i < 8) : w.cell? ⟨b, i, none⟩ = some (.bool (f i)) := by
  obtain ⟨cs, h1, h2, h3⟩ := h
  rw [cell_of_row w b _ cs _ _ h1]; exact h3 i hi
theorem Arr8.frozen {w : World} {b : Nat} {f : Nat → Bool} (h : Arr8 w b f) (i : Nat) : w.frozen? ⟨b, i, none⟩ = false := by
  obtain ⟨cs, h1, h2, h3⟩ := h
  simp [World.frozen?, h1]
theorem Arr8.put {w : World} {b : Nat} {f : Nat → Bool} (h : Arr8 w b f) (i : Nat) (hi : i < 8) (v : Bool) : Arr8 (w.setCell ⟨b, i, none⟩ (.bool v)) b (YtcknoadoeonbjaaK.put f i v) := by
  obtain ⟨cs, h1, h2, h3⟩ := h
  refine ⟨cs.setIfInBounds i (.bool v), heap_setCell_same _ b _ _ _ _ h1, by simp [h2], fun j hj => ?_⟩
  have hs := h3 j hj
  unfold YtcknoadoeonbjaaK.put
  by_cases e : j = i
  · subst e
    simp [Array.getElem?_setIfInBounds, h2]
    omega
  · have e1 : ¬ i = j := fun h => e h.symm
    simp [Array.getElem?_setIfInBounds, h2, e, e1, hs]
theorem Tbl.grown {w w1 : World} {b b2 : Nat} {u : Nat → Bool} {n : Nat → Int} (h : Tbl w b u n) (hg : w.grownBy w1 (some b2)) (hne : b ≠ b2) : Tbl w1 b u n := by
  obtain ⟨cs, h1, h2⟩ := h
  exact ⟨cs, (hg.block b (Array.getElem?_eq_some_iff.1 h1).1 (by simpa using hne)).trans h1, h2⟩
theorem close_some' (b : Nat) (u : Nat → Bool) (n : Nat → Int) (i : Nat) (h : Int) (w : World) (hh : h = (i : Int) + 1) (hT : Tbl w b u n) (hi : i < 6) (hu : u i = true) :
    Calls Try.prog 34 #[.pointer (some ⟨b, 0, none⟩), .int .i64 h] w fun e w' => e = .returned (.int .i64 0) ∧ Tbl w' b (put u i false) (put n i 0) ∧ w.grownBy w' (some b) := by
  subst hh; exact close_some b u n i w hT hi hu
theorem free_ex (u : Nat → Bool) : ∃ i, Free u i := by
  by_cases h0 : u 0 = true
  · by_cases h1 : u 1 = true
    · by_cases h2 : u 2 = true
      · by_cases h3 : u 3 = true
        · by_cases h4 : u 4 = true
          · by_cases h5 : u 5 = true
            · exact ⟨6, by omega, fun j hj => by match j, hj with | 0, _ => exact h0 | 1, _ => exact h1 | 2, _ => exact h2 | 3, _ => exact h3 | 4, _ => exact h4 | 5, _ => exact h5, by omega⟩
            · exact ⟨5, by omega, fun j hj => by match j, hj with | 0, _ => exact h0 | 1, _ => exact h1 | 2, _ => exact h2 | 3, _ => exact h3 | 4, _ => exact h4, fun _ => by simpa using h5⟩
          · exact ⟨4, by omega, fun j hj => by match j, hj with | 0, _ => exact h0 | 1, _ => exact h1 | 2, _ => exact h2 | 3, _ => exact h3, fun _ => by simpa using h4⟩
        · exact ⟨3, by omega, fun j hj => by match j, hj with | 0, _ => exact h0 | 1, _ => exact h1 | 2, _ => exact h2, fun _ => by simpa using h3⟩
      · exact ⟨2, by omega, fun j hj => by match j, hj with | 0, _ => exact h0 | 1, _ => exact h1, fun _ => by simpa using h2⟩
    · exact ⟨1, by omega, fun j hj => by match j, hj with | 0, _ => exact h0, fun _ => by simpa using h1⟩
  · exact ⟨0, by omega, fun j hj => by omega, fun _ => by simpa using h0⟩
theorem i64_and_low (k : Nat) (hk : k ≤ 16) (x : Int) : bits .and .i64 x ((2 ^ k - 1 : Nat) : Int) = ((x % ((2 ^ k : Nat) : Int)).toNat : Int) := by
  have h1 : (BitVec.ofInt 64 ((2 ^ k - 1 : Nat) : Int)).toNat = 2 ^ k - 1 := by
    rw [BitVec.ofInt_natCast, BitVec.toNat_ofNat]
    have : 2 ^ k ≤ 2 ^ 16 := Nat.pow_le_pow_right (by decide) hk
    exact Nat.mod_eq_of_lt (by omega)
  show IntKind.i64.wrap (((BitVec.ofInt 64 x) &&& (BitVec.ofInt 64 _)).toNat : Int) = _
  rw [BitVec.toNat_and, h1, Nat.and_two_pow_sub_one_eq_mod, BitVec.toNat_ofInt, IntKind.wrap_i64]
  have hp : 2 ^ k ≤ 2 ^ 16 := Nat.pow_le_pow_right (by decide) hk
  have hp0 : 0 < 2 ^ k := Nat.pow_pos (by decide)
  have hd : ((2 ^ 64 : Nat) : Int) = ((2 ^ k : Nat) : Int) * ((2 ^ (64 - k) : Nat) : Int) := by
    rw [← Int.natCast_mul, ← Nat.pow_add]; congr 2; omega
  have hx0 : 0 ≤ x % ((2 ^ 64 : Nat) : Int) := Int.emod_nonneg _ (by decide)
  have e1 : (((x % ((2 ^ 64 : Nat) : Int)).toNat % 2 ^ k : Nat) : Int) = x % ((2 ^ k : Nat) : Int) := by
    rw [Int.natCast_emod, Int.toNat_of_nonneg hx0]; exact Int.emod_emod_of_dvd _ ⟨_, hd⟩
  rw [e1]
  have h2 : 0 ≤ x % ((2 ^ k : Nat) : Int) := Int.emod_nonneg _ (by omega)
  have h3 : x % ((2 ^ k : Nat) : Int) < ((2 ^ k : Nat) : Int) := Int.emod_lt_of_pos _ (by omega)
  rw [Int.toNat_of_nonneg h2]
  generalize x % ((2 ^ k : Nat) : Int) = y at h2 h3
  omega
set_option maxHeartbeats 2000000 in
theorem handleLeast_walk (A : Option Addr) (n c : Nat) (ps : List (Int × Int)) (w : World) (hX : Prs w (.slice A n c) ps) :
    Calls Try.prog 12 #[.slice A n c] w fun e w' => e = .returned (.bool true) ∧ Below w.heap.size w w' := by
  have HN := Lib.hid hX.len
  by_cases h50 : 200 < n
  · clear hX
    go_enter Try.func12, Try.ntmps12
    go_wp2_with (go_at_call 32; refine (han_speaks _).mono ?_; rintro e w' ⟨rfl, hb⟩)
    go_ret
    exact ⟨rfl, ‹_›⟩
  go_enter Try.func12, Try.ntmps12
  go_wp2_with (first | (go_at_call 32; refine (han_speaks _).mono ?_; rintro e w1 ⟨rfl, hb⟩) | (go_at_call 33; refine (new_tab _).mono ?_; rintro e w2 ⟨tb, rfl, hbl, hT, hb2⟩))
  obtain ⟨eb, heb⟩ : ∃ eb, eb = w2.heap.size := ⟨_, rfl⟩
  obtain ⟨W, hW⟩ : ∃ W, W = w2.alloc (Obj.cells #[Value.bool false, Value.bool false, Value.bool false, Value.bool false, Value.bool false, Value.bool false, Value.bool false, Value.bool false] 55) := ⟨_, rfl⟩
  have harr : Arr8 W eb (fun _ => false) := by
    rw [hW, heb]
    exact ⟨_, heap_alloc_new w2 _, rfl, fun i hi => by match i, hi with | 0, _ => rfl | 1, _ => rfl | 2, _ => rfl | 3, _ => rfl | 4, _ => rfl | 5, _ => rfl | 6, _ => rfl | 7, _ => rfl⟩
  have hT2 : Tbl W tb (fun _ => false) (fun _ => 0) := by rw [hW]; exact hT.below ((Below.refl _ _).alloc (Nat.le_refl _) _)
  have hs1 := hb.size
  have hs2 := hb2.size
  have hbW : Below w.heap.size w W := by rw [hW]; exact (hb.trans (hb2.mono hs1)).alloc (by omega) _
  have hne : tb ≠ eb := by
    obtain ⟨cs, h1, _⟩ := hT
    rw [heb]
    exact Nat.ne_of_lt (Array.getElem?_eq_some_iff.1 h1).1
  have hge : w.heap.size ≤ tb ∧ w.heap.size ≤ eb := ⟨by omega, by omega⟩
  have HNE := Lib.hid hne
  rw [← hW, ← heb]
  clear hW heb hne hT hb hb2 hbl hs1 hs2
  go_loopw [6, 7, 8, 9, 10, 22] (fun v6 v7 v8 v9 v10 i wr => ∃ (k : Nat) (u f : Nat → Bool) (m : Nat → Int), k ≤ n ∧ i = .int .i64 k ∧ Tbl wr tb u m ∧ Arr8 wr eb f ∧ (∀ j, j < 6 → f (j + 1) = u j) ∧ Below w.heap.size w wr) (fun _ _ _ _ _ i _ => n - (intOf i).toNat)
  case atStart => exact ⟨0, fun _ => false, fun _ => false, fun _ => 0, Nat.zero_le _, rfl, hT2, harr, fun _ _ => rfl, hbW⟩
  case round =>
    obtain ⟨k, u, f, m, hk, rfl, hT, hA, huf, hb⟩ := hrel
    clear hT2 harr hbW
    by_cases hlt : k < n
    · have hkx : k < ps.length := by rw [← HN.out]; exact hlt
      obtain ⟨a, rfl, hc0, hc1⟩ := (hX.below hb).at k hkx
      obtain ⟨K, hK⟩ : ∃ K, K = ps[k].1 := ⟨_, rfl⟩
      obtain ⟨N, hN⟩ : ∃ N, N = ps[k].2 := ⟨_, rfl⟩
      rw [← hK] at hc0
      rw [← hN] at hc1
      clear hK hN
      rw [add_succ a (k * 2) 1 (by decide)] at hc1
      have hsz := hb.size
      have HUF := Lib.hid huf
      clear huf
      have hKb := i64_and_low 1 (by decide) K
      have hNb := i64_and_low 3 (by decide) N
      obtain ⟨q, hq⟩ : ∃ q : Nat, q = (N % ((2 ^ 3 : Nat) : Int)).toNat := ⟨_, rfl⟩
      have hq8 : q < 8 := by
        have h2 : 0 ≤ N % ((2 ^ 3 : Nat) : Int) := Int.emod_nonneg _ (by decide)
        have h3 : N % ((2 ^ 3 : Nat) : Int) < ((2 ^ 3 : Nat) : Int) := Int.emod_lt_of_pos _ (by decide)
        omega
      rw [← hq] at hNb
      clear hq
      have hNb : bits .and .i64 N 7 = (q : Int) := hNb
      by_cases hK0 : (K % ((2 ^ 1 : Nat) : Int)).toNat = 0
      · rw [hK0] at hKb
        have hKb : bits .and .i64 K 1 = 0 := hKb
        clear hK0
        have hTa := hT.below ((Below.refl _ _).alloc (Nat.le_refl _) (Obj.cells #[.int .i64 K, .int .i64 N] 57))
        have hAa := hA.below ((Below.refl _ _).alloc (Nat.le_refl _) (Obj.cells #[.int .i64 K, .int .i64 N] 57))
        have hba := hb.alloc hsz (Obj.cells #[.int .i64 K, .int .i64 N] 57)
        go_wp2
        obtain ⟨W2, hW2⟩ : ∃ W2, W2 = wr.alloc (Obj.cells #[.int .i64 K, .int .i64 N] 57) := ⟨_, rfl⟩
        rw [← hW2] at hTa hAa hba
        rw [← hW2]
        clear hW2 hc0 hc1
        have hcq := hAa.cell q hq8
        have hfq := hAa.frozen q
        have hput := hAa.put q hq8 false
        have hgb := hge.2
        have hga := hge.1
        by_cases hcase : f q = true ∧ 1 ≤ q ∧ q ≤ 6
        · obtain ⟨hfq1, hq1, hq6⟩ := hcase
          obtain ⟨p, hp⟩ : ∃ p, q = p + 1 := ⟨q - 1, by omega⟩
          have hup : u p = true := by rw [← HUF.out p (by omega), ← hp]; exact hfq1
          rw [hfq1] at hcq
          have HC := Lib.hid (fun W hT => close_some' tb u m p (q : Int) W (by omega) hT (by omega) hup)
          have HFQ := Lib.hid hfq1
          have HP := Lib.hid hp
          have hq8' : (q : Int) < 8 := by omega
          have hq1' : (1 : Int) ≤ q := by omega
          have hq6' : (q : Int) ≤ 6 := by omega
          clear hfq1 hput hp
          go_region_held3 (fun w' => w'.cell? ⟨eb, q, none⟩ = some (.bool true)) (go_keep)
            ((go_at_call 34; refine (HC.out _ (by exact hTa)).mono ?_; rintro e w3 ⟨rfl, hT3, hg3⟩; have hA3 := hAa.grown (grown_drew hg3) (Ne.symm HNE.out); have hb3 := hba.grown (grown_drew hg3) hba.size (fun k hk => by injection hk with hk; omega); have hc3 := (hA3.cell q (by omega)).trans (by rw [HFQ.out]); have hf3 := hA3.frozen q))
          all_goals
            have hput := hA3.put q hq8 false
            go_wp2
            go_roundw
            case rel =>
              refine ⟨k + 1, put u p false, put f q false, put m p 0, by omega, by go_num, hT3.grown (grown_set _ eb _ _) HNE.out, hput, fun j hj => ?_, hb3.setCell hgb _⟩
              unfold put
              by_cases e : j = p
              · rw [if_pos e, if_pos (by rw [HP.out, e])]
              · rw [if_neg e, if_neg (by rw [HP.out]; omega)]; exact HUF.out j hj
            case measure => simp [intOf]; omega
        · have hno : (q : Int) < 1 ∨ 6 < (q : Int) ∨ ∃ i : Nat, i < 6 ∧ (q : Int) = (i : Int) + 1 ∧ u i = false := by
            by_cases h1 : q < 1
            · exact .inl (by omega)
            · by_cases h6 : 6 < q
              · exact .inr (.inl (by omega))
              · refine .inr (.inr ⟨q - 1, by omega, by omega, ?_⟩)
                rw [← HUF.out (q - 1) (by omega), show q - 1 + 1 = q from by omega]
                cases hv : f q with
                | false => rfl
                | true => exact absurd ⟨hv, by omega, by omega⟩ hcase
          have HC := Lib.hid (fun W hT => close_none tb u m (q : Int) W hT hno)
          have hrelu : ∀ j, j < 6 → (put f q false) (j + 1) = u j := by
            intro j hj
            unfold put
            by_cases e : j + 1 = q
            · rw [if_pos e, ← HUF.out j hj, e]
              cases hv : f q with
              | false => rfl
              | true => exact absurd ⟨hv, by omega, by omega⟩ hcase
            · rw [if_neg e]; exact HUF.out j hj
          have HRU := Lib.hid hrelu
          have hq8' : (q : Int) < 8 := by omega
          clear hno hrelu
          cases hv : f q with
          | false =>
            rw [hv] at hcq
            clear hv hcase
            go_quiet ((go_at_call 34; exact Calls.quiet_of_same ((HC.out _ (by exact hTa)).mono fun _ _ h => ⟨h.1, h.2.symm⟩)))
            go_wp2
            go_roundw
            case rel => exact ⟨k + 1, u, put f q false, m, by omega, by go_num, hTa.grown (grown_drewN (k := nq) (grown_set (W2.drewN nq) eb q _)) HNE.out, Arr8.put (w := W2.drewN nq) hAa q hq8 false, HRU.out, below_drewN (hba.setCell hgb _)⟩
            case measure => simp [intOf]; omega
          | true =>
            rw [hv] at hcq
            by_cases h1 : q < 1
            · obtain rfl : q = 0 := by omega
              clear hv hcase h1
              go_quiet ((go_at_call 34; exact Calls.quiet_of_same ((HC.out _ (by exact hTa)).mono fun _ _ h => ⟨h.1, h.2.symm⟩)))
              go_wp2
              go_roundw
              case rel => exact ⟨k + 1, u, put f 0 false, m, by omega, by go_num, hTa.grown (grown_drewN (k := nq) (grown_set (W2.drewN nq) eb 0 _)) HNE.out, Arr8.put (w := W2.drewN nq) hAa 0 hq8 false, HRU.out, below_drewN (hba.setCell hgb _)⟩
              case measure => simp [intOf]; omega
            · have h6 : 6 < q := by
                rcases Nat.lt_or_ge 6 q with h | h
                · exact h
                · exact absurd ⟨hv, by omega, h⟩ hcase
              have h1' : (1 : Int) ≤ q := by omega
              have h6' : (6 : Int) < q := by omega
              clear hv hcase
              go_quiet ((go_at_call 34; exact Calls.quiet_of_same ((HC.out _ (by exact hTa)).mono fun _ _ h => ⟨h.1, h.2.symm⟩)))
              go_wp2
              go_roundw
              case rel => exact ⟨k + 1, u, put f q false, m, by omega, by go_num, hTa.grown (grown_drewN (k := nq) (grown_set (W2.drewN nq) eb q _)) HNE.out, Arr8.put (w := W2.drewN nq) hAa q hq8 false, HRU.out, below_drewN (hba.setCell hgb _)⟩
              case measure => simp [intOf]; omega
      · have hK1 : (K % ((2 ^ 1 : Nat) : Int)).toNat = 1 := by
          have h2 : 0 ≤ K % ((2 ^ 1 : Nat) : Int) := Int.emod_nonneg _ (by decide)
          have h3 : K % ((2 ^ 1 : Nat) : Int) < ((2 ^ 1 : Nat) : Int) := Int.emod_lt_of_pos _ (by decide)
          omega
        rw [hK1] at hKb
        have hKb : bits .and .i64 K 1 = 1 := hKb
        clear hK0 hK1 hNb
        have hTa := hT.below ((Below.refl _ _).alloc (Nat.le_refl _) (Obj.cells #[.int .i64 K, .int .i64 N] 57))
        have hAa := hA.below ((Below.refl _ _).alloc (Nat.le_refl _) (Obj.cells #[.int .i64 K, .int .i64 N] 57))
        have hba := hb.alloc hsz (Obj.cells #[.int .i64 K, .int .i64 N] 57)
        have hoc : (wr.alloc (Obj.cells #[.int .i64 K, .int .i64 N] 57)).cell? ⟨wr.heap.size, 1, none⟩ = some (.int .i64 N) := cell_of_row _ _ 1 _ _ _ (heap_alloc_new wr _)
        go_wp2
        obtain ⟨W2, hW2⟩ : ∃ W2, W2 = wr.alloc (Obj.cells #[.int .i64 K, .int .i64 N] 57) := ⟨_, rfl⟩
        obtain ⟨ob, hob⟩ : ∃ ob, ob = wr.heap.size := ⟨_, rfl⟩
        rw [← hW2] at hTa hAa hba hoc
        rw [← hob] at hoc
        rw [← hW2, ← hob]
        clear hW2 hc0 hc1 hob
        obtain ⟨i, hF⟩ := free_ex u
        have hi6 := hF.1
        have hgb := hge.2
        have hga := hge.1
        go_loop [8] (fun v => ∃ j : Nat, j ≤ i ∧ v = .int .i64 ((j : Int) + 1)) (fun v => 7 - (intOf v).toNat)
        case atStart => exact ⟨0, Nat.zero_le _, rfl⟩
        case round =>
          obtain ⟨j, hj, rfl⟩ := hrel
          by_cases hji : j < i
          · have hcj := hAa.cell (j + 1) (by omega)
            rw [HUF.out j (by omega), hF.2.1 j hji] at hcj
            have h1 : (j : Int) + 1 < 7 := by omega
            go_wp2
            go_round
            case rel => exact ⟨j + 1, by omega, by go_num⟩
            case measure => simp [intOf]; omega
          · obtain rfl : j = i := by omega
            by_cases h6 : j < 6
            · have hcj := hAa.cell (j + 1) (by omega)
              rw [HUF.out j (by omega), hF.2.2 h6] at hcj
              have h1 : (j : Int) + 1 < 7 := by omega
              have HO := Lib.hid (open_any tb u m N j W2 hTa hF h6)
              clear hF
              go_wp2_with (go_at_call 35; refine HO.out.mono ?_; rintro e w3 ⟨rfl, hT3, hg3⟩; have hA3 := hAa.grown hg3 (Ne.symm HNE.out); have hb3 := hba.grown hg3 hba.size (fun k hk => by injection hk with hk; omega); have hf3 := hA3.frozen (j + 1); have hc3 := hA3.cell (j + 1) (by omega); have hp3 := hA3.put (j + 1) (by omega) true)
              go_roundw
              case rel =>
                refine ⟨k + 1, put u j true, put f (j + 1) true, put m j N, by omega, by go_num, hT3.grown (grown_set _ eb _ _) HNE.out, hp3, fun q hq => ?_, hb3.setCell hgb _⟩
                unfold put
                by_cases e : q = j
                · rw [if_pos e, if_pos (by rw [e])]
                · rw [if_neg e, if_neg (by omega)]; exact HUF.out q hq
              case measure => simp [intOf]; omega
            · obtain rfl : j = 6 := by omega
              have HO := Lib.hid (open_full tb u m N W2 hTa hF)
              clear hF
              go_wp2_with (go_at_call 35; refine HO.out.mono ?_; rintro e w3 ⟨rfl, hb3⟩; have hA3 := hAa.below hb3; have hT3 := hTa.below hb3; have hb4 := hba.trans (hb3.mono hba.size))
              go_roundw
              case rel => exact ⟨k + 1, u, f, m, by omega, by go_num, hT3, hA3, HUF.out, hb4⟩
              case measure => simp [intOf]; omega
    · obtain rfl : k = n := by omega
      go_wp2
      go_ret
      exact ⟨rfl, hb⟩
end Go.Proofs.YtcknoadoeonbjaaK
