import Derived.Test.YtoeonmdcoiemmaaKWearE
namespace Go.Proofs.YtoeonmdcoiemmaaK
open Go.RowKit
set_option linter.unusedSimpArgs false
set_option linter.unusedVariables false
/-- The first k of them have the numbers 1, 2, .., and the blocks 0, 1, ... -/
def Own (n k : Nat) (ls : List Ld) : Prop := ls.length = n ∧ ∀ i, i < k → (ls.getD i ldZ).seq = (i : Int) + 1 ∧ (ls.getD i ldZ).blk = (i : Int)
theorem Own.step {n k : Nat} {ls : List Ld} (h : Own n k ls) (hk : k < n) (x : Ld) : Own n (k + 1) (ls.set k ⟨(k : Int) + 1, x.wear, (k : Int), x.cnt⟩) := by
  refine ⟨by rw [List.length_set]; exact h.1, fun i hi => ?_⟩
  rw [getD_set _ _ _ _ (by rw [h.1]; exact hk)]
  by_cases e : i = k
  · subst e; rw [if_pos rfl]; exact ⟨rfl, rfl⟩
  · rw [if_neg e]; exact h.2 i (by omega)
theorem getD_mem {ls : List Ld} {i : Nat} (h : i < ls.length) : ls.getD i ldZ ∈ ls := by
  rw [List.getD_eq_getElem?_getD, List.getElem?_eq_getElem h]; exact List.getElem_mem h
theorem mem_getD {ls : List Ld} {x : Ld} (h : x ∈ ls) : ∃ i, i < ls.length ∧ ls.getD i ldZ = x := by
  obtain ⟨i, hi, e⟩ := List.getElem_of_mem h
  exact ⟨i, hi, by rw [List.getD_eq_getElem?_getD, List.getElem?_eq_getElem hi]; exact e⟩
theorem getD_get {ls : List Ld} {i : Nat} (h : i < ls.length) : ls.getD i ldZ = ls[i] := by
  rw [List.getD_eq_getElem?_getD, List.getElem?_eq_getElem h]; rfl
theorem Own.nodup {n : Nat} {ls : List Ld} (h : Own n n ls) : ls.Nodup := by
  refine List.pairwise_iff_getElem.2 fun i j hi hj hij he => ?_
  have h1 := (h.2 i (by rw [← h.1]; exact hi)).1
  have h2 := (h.2 j (by rw [← h.1]; exact hj)).1
  rw [getD_get hi] at h1
  rw [getD_get hj] at h2
  rw [he] at h1
  omega
theorem Own.seq {n : Nat} {ls : List Ld} (h : Own n n ls) {x y : Ld} (hx : x ∈ ls) (hy : y ∈ ls) (he : x.seq = y.seq) : x = y := by
  obtain ⟨i, hi, rfl⟩ := mem_getD hx
  obtain ⟨j, hj, rfl⟩ := mem_getD hy
  have h1 := (h.2 i (by rw [← h.1]; exact hi)).1
  have h2 := (h.2 j (by rw [← h.1]; exact hj)).1
  have : i = j := by omega
  rw [this]
theorem Own.blk {n : Nat} {ls : List Ld} (h : Own n n ls) {x y : Ld} (hx : x ∈ ls) (hy : y ∈ ls) (he : x.blk = y.blk) : x = y := by
  obtain ⟨i, hi, rfl⟩ := mem_getD hx
  obtain ⟨j, hj, rfl⟩ := mem_getD hy
  have h1 := (h.2 i (by rw [← h.1]; exact hi)).2
  have h2 := (h.2 j (by rw [← h.1]; exact hj)).2
  have : i = j := by omega
  rw [this]
theorem vict_none {ls : List Ld} (h : ls.length ≤ 1) : vict ls = none := by
  unfold vict
  match hl : ls.length, h with
  | 0, _ => rfl
  | 1, _ => simp [bestP, lastP]
theorem nodup_getD {ls : List Ld} (h : ls.Nodup) {i j : Nat} (hi : i < ls.length) (hj : j < ls.length) (he : ls.getD i ldZ = ls.getD j ldZ) : i = j := by
  rw [getD_get hi, getD_get hj] at he
  exact (List.getElem_inj h).1 he
/-- What is chosen: it isn't the last one, and none but that is ahead of it. -/
theorem vict_spec {ls : List Ld} (h2 : 2 ≤ ls.length) : ∃ b : Nat, vict ls = some b ∧ b < ls.length ∧ b ≠ lastP ls ls.length ∧ ∀ i, i < ls.length → i ≠ lastP ls ls.length → lessB (ls.getD i ldZ) (ls.getD b ldZ) = false := by
  unfold vict
  obtain ⟨b, hb⟩ := best_some ls ((lastP ls ls.length : Nat) : Int) ls.length (by
    by_cases h : lastP ls ls.length = 0
    · exact ⟨1, by omega, by omega⟩
    · exact ⟨0, by omega, by omega⟩)
  obtain ⟨e1, e2, e3⟩ := best_spec _ _ _ _ hb
  exact ⟨b, hb, e2, by omega, fun i hi hn => e3 i hi (by omega)⟩
theorem order_law {n : Nat} {xs ys : List Ld} (h : Own n n xs) (hp : ys.Perm xs) (hn : 2 ≤ n) :
    ∃ i k : Nat, vict xs = some i ∧ vict ys = some k ∧ i < n ∧ k < n ∧ xs.getD i ldZ = ys.getD k ldZ := by
  have hbl : ys.length = n := by rw [hp.length_eq]; exact h.1
  have hal := h.1
  have ha := h.nodup
  have hb : ys.Nodup := hp.nodup_iff.2 ha
  obtain ⟨i, hi, hi1, hi2, hi3⟩ := vict_spec (ls := xs) (by omega)
  obtain ⟨k, hk, hk1, hk2, hk3⟩ := vict_spec (ls := ys) (by omega)
  have hla := lastP_lt xs xs.length xs.length (Nat.le_refl _) (by omega)
  have hlb := lastP_lt ys ys.length ys.length (Nat.le_refl _) (by omega)
  have hL : xs.getD (lastP xs xs.length) ldZ = ys.getD (lastP ys ys.length) ldZ := by
    apply h.seq (getD_mem hla) (hp.mem_iff.1 (getD_mem hlb))
    obtain ⟨j, hj, ej⟩ := mem_getD (hp.mem_iff.2 (getD_mem hla))
    obtain ⟨q, hq, eq⟩ := mem_getD (hp.mem_iff.1 (getD_mem hlb))
    have h1 := last_spec ys ys.length j hj
    have h2 := last_spec xs xs.length q hq
    rw [ej] at h1
    rw [eq] at h2
    omega
  refine ⟨i, k, hi, hk, by omega, by omega, ?_⟩
  obtain ⟨j, hj, ej⟩ := mem_getD (hp.mem_iff.2 (getD_mem hi1))
  obtain ⟨q, hq, eq⟩ := mem_getD (hp.mem_iff.1 (getD_mem hk1))
  have h1 := hk3 j hj (fun e => by
    apply hi2
    apply nodup_getD ha hi1 hla
    rw [hL, ← e, ej])
  have h2 := hi3 q hq (fun e => by
    apply hk2
    apply nodup_getD hb hk1 hlb
    rw [← hL, ← e, eq])
  rw [ej] at h1
  rw [eq] at h2
  rw [Bool.eq_false_iff, ne_eq, lessB_iff] at h1 h2
  apply h.blk (getD_mem hi1) (hp.mem_iff.1 (getD_mem hk1))
  omega
theorem swap_perm {ls : List Ld} {x y : Nat} (hx : x < ls.length) (hy : y < ls.length) : ((ls.set x (ls.getD y ldZ)).set y (ls.getD x ldZ)).Perm ls := by
  rw [getD_get hx, getD_get hy]
  exact List.set_set_perm hx hy
/-- One of them is set anew. -/
theorem ref_put {w : World} {base g n c : Nat} {e : TypeId} {ls : List Ld} (h : w.ownsRow base e 4 (.slice (some ⟨g, 0, none⟩) n c) n (ls.flatMap encR)) (k : Nat) (hk : k < ls.length) (y : Ld) :
    ((((w.setCell ⟨g, k * 4, none⟩ (.int .u64 y.seq)).setCell ⟨g, k * 4 + 1, none⟩ (.int .u64 y.wear)).setCell ⟨g, k * 4 + 2, none⟩ (.int .i64 y.blk)).setCell ⟨g, k * 4 + 3, none⟩ (.int .i64 y.cnt)).ownsRow base e 4 (.slice (some ⟨g, 0, none⟩) n c) n ((ls.set k y).flatMap encR) := by
  have h0 := ref_set h k 0 _ (List.getElem?_eq_getElem hk) (.int .u64 y.seq) ⟨y.seq, (ls[k]).wear, (ls[k]).blk, (ls[k]).cnt⟩ (by decide) rfl
  have h1 := ref_set h0 k 1 _ (List.getElem?_set_self hk) (.int .u64 y.wear) ⟨y.seq, y.wear, (ls[k]).blk, (ls[k]).cnt⟩ (by decide) rfl
  have h2 := ref_set h1 k 2 _ (List.getElem?_set_self (by simpa using hk)) (.int .i64 y.blk) ⟨y.seq, y.wear, y.blk, (ls[k]).cnt⟩ (by decide) rfl
  have h3 := ref_set h2 k 3 _ (List.getElem?_set_self (by simpa using hk)) (.int .i64 y.cnt) ⟨y.seq, y.wear, y.blk, y.cnt⟩ (by decide) rfl
  rw [List.set_set, List.set_set, List.set_set] at h3
  exact h3
theorem below_put {B : Nat} {a w : World} (h : Below B a w) {g : Nat} (hg : B ≤ g) (k : Nat) (y : Ld) :
    Below B a ((((w.setCell ⟨g, k * 4, none⟩ (.int .u64 y.seq)).setCell ⟨g, k * 4 + 1, none⟩ (.int .u64 y.wear)).setCell ⟨g, k * 4 + 2, none⟩ (.int .i64 y.blk)).setCell ⟨g, k * 4 + 3, none⟩ (.int .i64 y.cnt)) :=
  (((h.setCell (p := ⟨g, k * 4, none⟩) hg _).setCell (p := ⟨g, k * 4 + 1, none⟩) hg _).setCell (p := ⟨g, k * 4 + 2, none⟩) hg _).setCell (p := ⟨g, k * 4 + 3, none⟩) hg _
set_option maxRecDepth 100000 in
set_option maxHeartbeats 4000000 in
theorem wearOrder_walk (A : Option Addr) (n c : Nat) (ls : List Ld) (B : Option Addr) (m cb : Nat) (os : List Int) (w : World) (hX : RS w (.slice A n c) ls) (hY : Is .i64 w (.slice B m cb) os) :
    Calls Try.prog 10 #[.slice A n c, .slice B m cb] w fun e w' => e = .returned (.bool true) ∧ Below w.heap.size w w' := by
  have HN := Lib.hid hX.len.1
  have HM := Lib.hid hY.len
  by_cases h2 : 50 < n ∨ 100 < m
  · clear hX hY
    by_cases h50 : 50 < n
    · clear h2
      go_enter Try.func10, Try.ntmps10
      go_wp2_with (go_at_call 18; refine (wear_speaks _).mono ?_; rintro e w' ⟨rfl, hb⟩)
      all_goals
        go_ret
        exact ⟨rfl, ‹_›⟩
    · have h100 : 100 < m := by omega
      clear h2
      go_enter Try.func10, Try.ntmps10
      go_wp2_with (go_at_call 18; refine (wear_speaks _).mono ?_; rintro e w' ⟨rfl, hb⟩)
      all_goals
        go_ret
        exact ⟨rfl, ‹_›⟩
  have h50 : n ≤ 50 := by omega
  have h100 : m ≤ 100 := by omega
  clear h2
  have hlen : (ls.flatMap encR).length = n * 4 := by rw [flat_len4, ← HN.out]
  have HL := Lib.hid hlen
  clear hlen
  go_enter Try.func10, Try.ntmps10
  go_wp2_with (first
    | (go_at_call 18; refine (wear_speaks _).mono ?_; rintro e w1 ⟨rfl, hb⟩; have hat := own_empty (w := w1) (b := w1.heap.size) (base := w.heap.size) (e := 51) (size := 4) rfl hb.size; have hb3 := hb.alloc hb.size (.cells #[] 51); have hA := (hX.below hb3).at)
    | (at_builtin; refine wp_append w.heap.size rfl _ _ 42 51 (.agg #[.int .u64 0, .int .u64 0, .int .i64 0, .int .i64 0]) 4 32 rfl Try.underlying42 info_ref rfl (by decide) (by decide) (.slice (some ⟨w1.heap.size, 0, none⟩) 0 0) 0 [] A n c (ls.flatMap encR) rfl rfl hat hA HL.out (encR_one ls) hb3.size (by omega) ?_; intro v1 w2 ho1 hg1 ha1; have hb4 := below_grown hb3 hat hg1 hb3.size; clear hat hA hg1 ha1; rw [Nat.zero_add, List.nil_append] at ho1; obtain ⟨A1, c1, rfl, hc1, hn63⟩ := own_form ho1))
  go_loopw [6, 32] (fun v6 i wr => ∃ (k : Nat) (lk : List Ld), k ≤ n ∧ i = .int .i64 k ∧ Own n k lk ∧ wr.ownsRow w.heap.size 51 4 (.slice A1 n c1) n (lk.flatMap encR) ∧ Below w.heap.size w wr) (fun _ i _ => n - (intOf i).toNat)
  case atStart => exact ⟨0, ls, Nat.zero_le _, rfl, ⟨HN.out.symm, fun i hi => absurd hi (Nat.not_lt_zero _)⟩, ho1, hb4⟩
  case round =>
    obtain ⟨k, lk, hk, rfl, hE, ho, hbk⟩ := hrel
    clear hb hX hb3 hb4 ho1
    have hsz := hbk.size
    by_cases hlt : k < n
    · obtain ⟨g, c6, he, _, hg0, hg1, _⟩ := own_pos ho (by omega)
      injection he with e1 e2 e3
      subst e1 e3
      clear e2
      have hkl : k < lk.length := by rw [hE.1]; exact hlt
      obtain ⟨x, hx⟩ : ∃ x, x = lk[k] := ⟨_, rfl⟩
      have hkx : lk[k]? = some x := by rw [List.getElem?_eq_getElem hkl, hx]
      have HE := Lib.hid hE
      obtain ⟨⟨d0, f0⟩, _, _, _⟩ := ref_cells ho k x hkx
      have ho2 := ref_set ho k 0 x hkx (.int .u64 ((k : Int) + 1)) ⟨(k : Int) + 1, x.wear, x.blk, x.cnt⟩ (by decide) rfl
      have hk2 : (lk.set k ⟨(k : Int) + 1, x.wear, x.blk, x.cnt⟩)[k]? = some ⟨(k : Int) + 1, x.wear, x.blk, x.cnt⟩ := List.getElem?_set_self hkl
      obtain ⟨_, _, ⟨d2, f2⟩, _⟩ := ref_cells ho2 k _ hk2
      have ho3 := ref_set ho2 k 2 _ hk2 (.int .i64 (k : Int)) ⟨(k : Int) + 1, x.wear, k, x.cnt⟩ (by decide) rfl
      rw [List.set_set] at ho3
      have hb5 := (hbk.setCell (p := ⟨g, k * 4 + 0, none⟩) hg0 (.int .u64 ((k : Int) + 1))).setCell (p := ⟨g, k * 4 + 2, none⟩) hg0 (.int .i64 (k : Int))
      have HO := Lib.hid ho3
      clear ho ho2 ho3 hx hkx hk2 hE hbk
      go_wp2
      go_roundw
      case rel => exact ⟨k + 1, _, by omega, by go_num, HE.out.step hlt x, HO.out, hb5⟩
      case measure => simp [intOf]; omega
    · obtain rfl : k = n := by omega
      have HLk := Lib.hid (by rw [flat_len4, hE.1] : (lk.flatMap encR).length = k * 4)
      have HE := Lib.hid hE
      have hra := own_rs hE.1.symm ho
      clear hE
      obtain ⟨wo, hwo⟩ : ∃ wo : World, wo = wr := ⟨_, rfl⟩
      rw [← hwo] at ho hra hbk hsz
      rw [← hwo]
      clear hwo
      have hat := own_empty (w := wo) (b := wo.heap.size) (base := wo.heap.size) (e := 51) (size := 4) rfl (Nat.le_refl _)
      have hb3 := (Below.refl wo.heap.size wo).alloc (Nat.le_refl _) (.cells #[] 51)
      have hA := (hra.below hb3).at
      clear ho
      go_wp2_with (at_builtin; refine wp_append wo.heap.size rfl _ _ 42 51 (.agg #[.int .u64 0, .int .u64 0, .int .i64 0, .int .i64 0]) 4 32 rfl Try.underlying42 info_ref rfl (by decide) (by decide) (.slice (some ⟨wo.heap.size, 0, none⟩) 0 0) 0 [] A1 k c1 (lk.flatMap encR) rfl rfl hat hA HLk.out (encR_one lk) hb3.size (by omega) ?_; intro v1 w2 ho1 hg1 ha1; have hb4 := below_grown hb3 hat hg1 hb3.size; clear hat hA hg1 ha1; rw [Nat.zero_add, List.nil_append] at ho1; obtain ⟨A2, c2, rfl, hc2, hn64⟩ := own_form ho1)
      go_loopw [8, 9, 10, 11, 12, 53] (fun v8 v9 v10 v11 v12 i wr => ∃ (j : Nat) (lb : List Ld), j ≤ m ∧ i = .int .i64 j ∧ lb.Perm lk ∧ wr.ownsRow wo.heap.size 51 4 (.slice A2 k c2) k (lb.flatMap encR) ∧ Below wo.heap.size wo wr) (fun _ _ _ _ _ i _ => m - (intOf i).toNat)
      case atStart => exact ⟨0, lk, Nat.zero_le _, rfl, List.Perm.refl _, ho1, hb4⟩
      case round =>
        obtain ⟨j, lb, hj, rfl, hp, ho, hbj⟩ := hrel
        clear hb3 hb4 ho1
        have hszj := hbj.size
        have hbw := hbk.trans (hbj.mono hsz)
        by_cases hlj : j < m
        · have hlbl : lb.length = k := by rw [hp.length_eq]; exact HE.out.1
          obtain ⟨a, rfl, hcell⟩ := (hY.below hbw).at.map j (by rw [← HM.out]; exact hlj)
          obtain ⟨z, hz⟩ : ∃ z, z = os[j]'(by rw [← HM.out]; exact hlj) := ⟨_, rfl⟩
          rw [← hz] at hcell
          have hcell : wr.cell? (a.add j) = some (.int .i64 z) := hcell
          clear hz
          by_cases hk0 : 0 < k
          · obtain ⟨g, c6, he, _, hg0, hg1, _⟩ := own_pos ho hk0
            injection he with e1 e2 e3
            subst e1 e3
            clear e2
            obtain ⟨q, hq⟩ : ∃ q : Nat, q = (z % 65536).toNat := ⟨_, rfl⟩
            have hqi : bits .and .i64 z 65535 = (q : Int) := by rw [i64_and_mask, hq]
            have hq2 : q < 65536 := by omega
            obtain ⟨x, hx⟩ : ∃ p : Nat, p = j % k := ⟨_, rfl⟩
            obtain ⟨y, hy⟩ : ∃ p : Nat, p = q % k := ⟨_, rfl⟩
            have hxn : x < k := by rw [hx]; exact Nat.mod_lt _ hk0
            have hyn : y < k := by rw [hy]; exact Nat.mod_lt _ hk0
            have hxe : (j : Int).tmod (k : Int) = (x : Int) := by rw [hx]; rfl
            have hye : (q : Int).tmod (k : Int) = (y : Int) := by rw [hy]; rfl
            clear hq hx hy
            go_wp2
            go_quiet (fail)
            obtain ⟨W, hW⟩ : ∃ W, W = wr.drewN nq := ⟨_, rfl⟩
            have hbW : Below wr.heap.size wr W := by rw [hW]; exact below_drewN (Below.refl _ _)
            rw [← hW]
            clear hW
            have hoW := own_below ho hbW
            obtain ⟨X, hX⟩ : ∃ X, X = lb.getD x ldZ := ⟨_, rfl⟩
            obtain ⟨Y, hY2⟩ : ∃ Y, Y = lb.getD y ldZ := ⟨_, rfl⟩
            have hxl : lb[x]? = some X := by rw [hX, List.getD_eq_getElem?_getD, List.getElem?_eq_getElem (by omega)]; rfl
            have hyl : lb[y]? = some Y := by rw [hY2, List.getD_eq_getElem?_getD, List.getElem?_eq_getElem (by omega)]; rfl
            obtain ⟨⟨a0, k0⟩, ⟨a1, k1⟩, ⟨a2, k2⟩, ⟨a3, k3⟩⟩ := ref_cells hoW x X hxl
            obtain ⟨⟨d0, l0⟩, ⟨d1, l1⟩, ⟨d2, l2⟩, ⟨d3, l3⟩⟩ := ref_cells hoW y Y hyl
            have HX := Lib.hid hX
            have HY2 := Lib.hid hY2
            have HO := Lib.hid hoW
            have hps := (swap_perm (ls := lb) (x := x) (y := y) (by omega) (by omega)).trans hp
            rw [← hX, ← hY2] at hps
            have ho8 := ref_put (ref_put hoW x (by omega) Y) y (by rw [List.length_set]; omega) X
            have hb8 := below_put (below_put (hbj.trans (hbW.mono hszj)) hg0 x Y) hg0 y X
            have HO8 := Lib.hid (own_below ho8 ((Below.refl _ _).drew))
            have hb9 := hb8.drew
            clear hX hY2 hxl hyl ho hoW ho8 hb8 hp
            rcases Nat.lt_trichotomy x y with hxy | hxy | hxy
            · have hne1 : x ≠ y := by omega
              go_wp2
              go_region
              go_wp2
              go_roundw
              case rel => exact ⟨j + 1, _, by omega, by go_num, hps, HO8.out, hb9⟩
              case measure => simp [intOf]; omega
            · subst hxy
              obtain rfl : Y = X := by rw [HX.out, HY2.out]
              go_wp2
              go_region
              go_wp2
              go_roundw
              case rel => exact ⟨j + 1, _, by omega, by go_num, hps, HO8.out, hb9⟩
              case measure => simp [intOf]; omega
            · have hne1 : x ≠ y := by omega
              go_wp2
              go_region
              go_wp2
              go_roundw
              case rel => exact ⟨j + 1, _, by omega, by go_num, hps, HO8.out, hb9⟩
              case measure => simp [intOf]; omega
          · obtain rfl : k = 0 := by omega
            go_wp2
            go_roundw
            case rel => exact ⟨j + 1, _, by omega, by go_num, hp, ho, hbj⟩
            case measure => simp [intOf]; omega
        · obtain rfl : j = m := by omega
          have hrb := own_rs (by rw [hp.length_eq]; exact HE.out.1.symm) ho
          have hraj := hra.below hbj
          have HL1 := Lib.hid (fun W h => loads_any A1 k c1 lk W h (by omega))
          have HL2 := Lib.hid (fun W h => loads_any A2 k c2 lb W h (by omega))
          have HV1 := Lib.hid (fun W A n c h => victim_any A n c lk W h)
          have HV2 := Lib.hid (fun W A n c h => victim_any A n c lb W h)
          have HN1 := Lib.hid HE.out.1
          have HN2 := Lib.hid (show lb.length = k by rw [hp.length_eq]; exact HE.out.1)
          clear ho hra hbj
          by_cases hk2 : 2 ≤ k
          · obtain ⟨i1, i2, h1, h2, h3, h4, h5⟩ := order_law HE.out hp hk2
            rw [h1] at HV1
            rw [h2] at HV2
            have HQ := Lib.hid h5
            clear h1 h2 h5 hp
            go_wp2_with (first
              | (go_at_call 20; refine (HL1.out _ hraj).mono ?_; rintro e w5 ⟨v, rfl, hw, hb5⟩; have hb6 := hbw.trans (hb5.mono hbw.size); obtain ⟨A5, c5, rfl, _, _, _⟩ := id hw; rw [HN1.out] at hw ⊢; have hra5 := hraj.below hb5; have hrb5 := hrb.below hb5; clear hraj)
              | (go_at_call 19; refine (HV1.out _ _ _ _ hw).mono ?_; rintro e w6 ⟨rfl, hb7⟩; have hb8 := hb6.trans (hb7.mono hb6.size); have hra6 := hra5.below hb7; have hrb6 := hrb5.below hb7; clear hw)
              | (go_at_call 20; refine (HL2.out _ hrb6).mono ?_; rintro e w7 ⟨v, rfl, hw7, hb9⟩; have hb10 := hb8.trans (hb9.mono hb8.size); obtain ⟨A7, c7, rfl, _, _, _⟩ := id hw7; rw [HN2.out] at hw7 ⊢; have hra7 := hra6.below hb9; have hrb7 := hrb6.below hb9; clear hrb6)
              | (go_at_call 19; refine (HV2.out _ _ _ _ hw7).mono ?_; rintro e w8 ⟨rfl, hb11⟩; have hb12 := hb10.trans (hb11.mono hb10.size); have hra8 := hra7.below hb11; have hrb8 := hrb7.below hb11; clear hw7))
            obtain ⟨a1, rfl, c0, c1', c2', c3'⟩ := hra8.get i1 h3
            obtain ⟨a2, rfl, d0, d1, d2, d3⟩ := hrb8.get i2 h4
            rw [← HQ.out] at d0 d1 d2 d3
            obtain ⟨X, hX⟩ : ∃ X, X = lk.getD i1 ldZ := ⟨_, rfl⟩
            rw [← hX] at c0 c1' c2' c3' d0 d1 d2 d3
            have h3' : (i1 : Int) < k := by omega
            have h4' : (i2 : Int) < k := by omega
            clear hX HQ
            go_quiet (fail)
            go_wp2
            go_ret
            exact ⟨rfl, below_drewN hb12⟩
          · have h1 : vict lk = none := vict_none (by rw [HE.out.1]; omega)
            have h2 : vict lb = none := vict_none (by rw [HN2.out]; omega)
            rw [h1] at HV1
            rw [h2] at HV2
            clear h1 h2 hp
            go_wp2_with (first
              | (go_at_call 20; refine (HL1.out _ hraj).mono ?_; rintro e w5 ⟨v, rfl, hw, hb5⟩; have hb6 := hbw.trans (hb5.mono hbw.size); obtain ⟨A5, c5, rfl, _, _, _⟩ := id hw; rw [HN1.out] at hw ⊢; have hra5 := hraj.below hb5; have hrb5 := hrb.below hb5; clear hraj)
              | (go_at_call 19; refine (HV1.out _ _ _ _ hw).mono ?_; rintro e w6 ⟨rfl, hb7⟩; have hb8 := hb6.trans (hb7.mono hb6.size); have hra6 := hra5.below hb7; have hrb6 := hrb5.below hb7; clear hw)
              | (go_at_call 20; refine (HL2.out _ hrb6).mono ?_; rintro e w7 ⟨v, rfl, hw7, hb9⟩; have hb10 := hb8.trans (hb9.mono hb8.size); obtain ⟨A7, c7, rfl, _, _, _⟩ := id hw7; rw [HN2.out] at hw7 ⊢; have hra7 := hra6.below hb9; have hrb7 := hrb6.below hb9; clear hrb6)
              | (go_at_call 19; refine (HV2.out _ _ _ _ hw7).mono ?_; rintro e w8 ⟨rfl, hb11⟩; have hb12 := hb10.trans (hb11.mono hb10.size); have hra8 := hra7.below hb11; have hrb8 := hrb7.below hb11; clear hw7))
            go_quiet (fail)
            go_wp2
            go_ret
            exact ⟨rfl, below_drewN hb12⟩
end Go.Proofs.YtoeonmdcoiemmaaK
