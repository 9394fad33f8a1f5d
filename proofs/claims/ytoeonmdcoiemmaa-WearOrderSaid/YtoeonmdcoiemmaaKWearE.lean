import Derived.Test.YtoeonmdcoiemmaaKWearP
namespace Go.Proofs.YtoeonmdcoiemmaaK
open Go.RowKit
set_option linter.unusedSimpArgs false
set_option linter.unusedVariables false
theorem i64_and_mask (x : Int) : bits .and .i64 x 65535 = ((x % 65536).toNat : Int) := by
  show IntKind.i64.wrap (((BitVec.ofInt 64 x) &&& (BitVec.ofInt 64 65535)).toNat : Int) = _
  rw [BitVec.toNat_and, BitVec.toNat_ofInt, BitVec.toNat_ofInt]
  have h1 : ((65535 : Int) % ((2 ^ 64 : Nat) : Int)).toNat = 2 ^ 16 - 1 := by decide
  rw [h1, Nat.and_two_pow_sub_one_eq_mod, IntKind.wrap_i64]
  omega
theorem i64_and7 (x : Int) : ∃ b : Nat, bits .and .i64 x 7 = (b : Int) ∧ b < 8 := by
  refine ⟨(x % 8).toNat, ?_, by omega⟩
  show IntKind.i64.wrap (((BitVec.ofInt 64 x) &&& (BitVec.ofInt 64 7)).toNat : Int) = _
  rw [BitVec.toNat_and, BitVec.toNat_ofInt, BitVec.toNat_ofInt]
  have h1 : ((7 : Int) % ((2 ^ 64 : Nat) : Int)).toNat = 2 ^ 3 - 1 := by decide
  rw [h1, Nat.and_two_pow_sub_one_eq_mod, IntKind.wrap_i64]
  omega
theorem u64_and63 (x : Int) : ∃ b : Nat, bits .and .u64 x 63 = (b : Int) ∧ b < 64 := by
  refine ⟨(x % 64).toNat, ?_, by omega⟩
  show IntKind.u64.wrap (((BitVec.ofInt 64 x) &&& (BitVec.ofInt 64 63)).toNat : Int) = _
  rw [BitVec.toNat_and, BitVec.toNat_ofInt, BitVec.toNat_ofInt]
  have h1 : ((63 : Int) % ((2 ^ 64 : Nat) : Int)).toNat = 2 ^ 6 - 1 := by decide
  rw [h1, Nat.and_two_pow_sub_one_eq_mod, IntKind.wrap_u64]
  omega
theorem getD_set (ls : List Ld) (k : Nat) (y : Ld) (i : Nat) (hk : k < ls.length) : (ls.set k y).getD i ldZ = if i = k then y else ls.getD i ldZ := by
  rw [List.getD_eq_getElem?_getD, List.getElem?_set, List.getD_eq_getElem?_getD]
  by_cases h : k = i
  · subst h; simp [hk]
  · rw [if_neg h, if_neg (by omega)]
theorem ref_cells {w : World} {base g n c : Nat} {e : TypeId} {ls : List Ld} (h : w.ownsRow base e 4 (.slice (some ⟨g, 0, none⟩) n c) n (ls.flatMap encR)) (k : Nat) (x : Ld) (hk : ls[k]? = some x) :
    (w.cell? ⟨g, k * 4, none⟩ = some (.int .u64 x.seq) ∧ w.frozen? ⟨g, k * 4, none⟩ = false) ∧ (w.cell? ⟨g, k * 4 + 1, none⟩ = some (.int .u64 x.wear) ∧ w.frozen? ⟨g, k * 4 + 1, none⟩ = false) ∧
    (w.cell? ⟨g, k * 4 + 2, none⟩ = some (.int .i64 x.blk) ∧ w.frozen? ⟨g, k * 4 + 2, none⟩ = false) ∧ (w.cell? ⟨g, k * 4 + 3, none⟩ = some (.int .i64 x.cnt) ∧ w.frozen? ⟨g, k * 4 + 3, none⟩ = false) := by
  obtain ⟨hk1, hk2⟩ := List.getElem?_eq_some_iff.1 hk
  have hf : ∀ i, i < 4 → (ls.flatMap encR)[k * 4 + i]? = (encR x)[i]? := fun i hi => by rw [flat_get 4 (fun _ => rfl) ls k i hk1 hi, hk2]
  exact ⟨own_cell h (k * 4 + 0) _ (hf 0 (by decide)), own_cell h (k * 4 + 1) _ (hf 1 (by decide)), own_cell h (k * 4 + 2) _ (hf 2 (by decide)), own_cell h (k * 4 + 3) _ (hf 3 (by decide))⟩
theorem ref_set {w : World} {base g n c : Nat} {e : TypeId} {ls : List Ld} (h : w.ownsRow base e 4 (.slice (some ⟨g, 0, none⟩) n c) n (ls.flatMap encR)) (k i : Nat) (x : Ld) (hk : ls[k]? = some x) (u : Value) (y : Ld) (hi : i < 4) (hy : (encR x).set i u = encR y) :
    (w.setCell ⟨g, k * 4 + i, none⟩ u).ownsRow base e 4 (.slice (some ⟨g, 0, none⟩) n c) n ((ls.set k y).flatMap encR) := by
  have h1 := (h.stored (k * 4 + i) u).1
  rwa [flat_set 4 (fun _ => rfl) ls k i u y (fun z hz => by rw [hk] at hz; injection hz with hz; subst hz; exact hy) hi] at h1
/-- The first k of them have the numbers 1, 2, .., and count, and are worn, at least once. -/
def Evn (n k : Nat) (ls : List Ld) : Prop := ls.length = n ∧ ∀ i, i < k → (ls.getD i ldZ).seq = (i : Int) + 1 ∧ 1 ≤ (ls.getD i ldZ).cnt ∧ 1 ≤ (ls.getD i ldZ).wear
theorem Evn.step {n k : Nat} {ls : List Ld} (h : Evn n k ls) (hk : k < n) (x : Ld) (c q : Nat) : Evn n (k + 1) (ls.set k ⟨(k : Int) + 1, 1 + (q : Int), x.blk, 1 + (c : Int)⟩) := by
  refine ⟨by rw [List.length_set]; exact h.1, fun i hi => ?_⟩
  rw [getD_set _ _ _ _ (by rw [h.1]; exact hk)]
  by_cases e : i = k
  · subst e; rw [if_pos rfl]; exact ⟨rfl, by show (1 : Int) ≤ 1 + _; omega, by show (1 : Int) ≤ 1 + _; omega⟩
  · rw [if_neg e]; exact h.2 i (by omega)
/-- The law: the one that counts least, and is worn least, is emptied, unless it is the last one. -/
theorem even_law {n p : Nat} {ls : List Ld} (h : Evn n n ls) (hn : 2 ≤ n) (hp : p < n) (y : Ld) (hy : y = ⟨(p : Int) + 1, 0, (ls.getD p ldZ).blk, 1⟩) :
    ∃ b : Nat, vict (ls.set p y) = some b ∧ (b = p ∨ p = n - 1) ∧ b ≠ n - 1 ∧ b < n := by
  have hl : (ls.set p y).length = n := by rw [List.length_set]; exact h.1
  have hg := getD_set ls p y
  have hseq : ∀ i, i < n → ((ls.set p y).getD i ldZ).seq = (i : Int) + 1 := by
    intro i hi
    rw [hg i (by rw [h.1]; exact hp)]
    by_cases e : i = p
    · subst e; rw [if_pos rfl, hy]
    · rw [if_neg e]; exact (h.2 i hi).1
  have hlast : lastP (ls.set p y) n = n - 1 := by
    have h1 := last_spec (ls.set p y) n (n - 1) (by omega)
    have h2 := lastP_lt (ls.set p y) n n (Nat.le_refl _) (by omega)
    rw [hseq _ (by omega), hseq _ h2] at h1
    omega
  unfold vict
  rw [hl, hlast]
  obtain ⟨b, hb⟩ := best_some (ls.set p y) ((n - 1 : Nat) : Int) n ⟨0, by omega, by omega⟩
  obtain ⟨h1, h2, h3⟩ := best_spec _ _ _ _ hb
  refine ⟨b, hb, ?_, by omega, h2⟩
  by_cases e : p = n - 1
  · exact .inr e
  left
  have h4 := h3 p hp (by omega)
  rw [Bool.eq_false_iff] at h4
  by_cases e2 : b = p
  · exact e2
  exfalso
  apply h4
  rw [lessB_iff, hg b (by rw [h.1]; exact hp), hg p (by rw [h.1]; exact hp), if_pos rfl, if_neg e2, hy]
  have h5 := h.2 b h2
  show (1 : Int) < _ ∨ ((1 : Int) = _ ∧ ((0 : Int) < _ ∨ _))
  omega
set_option maxRecDepth 100000 in
set_option maxHeartbeats 4000000 in
theorem wearEven_walk (A : Option Addr) (n c : Nat) (ls : List Ld) (kk : Int) (w : World) (hX : RS w (.slice A n c) ls) :
    Calls Try.prog 9 #[.slice A n c, .int .i64 kk] w fun e w' => e = .returned (.bool true) ∧ Below w.heap.size w w' := by
  have HN := Lib.hid hX.len.1
  by_cases h2 : n < 2
  · clear hX
    go_enter Try.func9, Try.ntmps9
    go_wp2_with (go_at_call 18; refine (wear_speaks _).mono ?_; rintro e w' ⟨rfl, hb⟩)
    all_goals
      go_ret
      exact ⟨rfl, ‹_›⟩
  by_cases h50 : 100 < n
  · clear hX
    go_enter Try.func9, Try.ntmps9
    go_wp2_with (go_at_call 18; refine (wear_speaks _).mono ?_; rintro e w' ⟨rfl, hb⟩)
    all_goals
      go_ret
      exact ⟨rfl, ‹_›⟩
  obtain ⟨q, hq⟩ : ∃ q : Nat, q = (kk % 65536).toNat := ⟨_, rfl⟩
  have hqi : bits .and .i64 kk 65535 = (q : Int) := by rw [i64_and_mask, hq]
  have hq2 : q < 65536 := by omega
  obtain ⟨p, hp⟩ : ∃ p : Nat, p = q % n := ⟨_, rfl⟩
  have hpn : p < n := by rw [hp]; exact Nat.mod_lt _ (by omega)
  have hpe : (q : Int).tmod (n : Int) = (p : Int) := by rw [hp]; rfl
  clear hq hp
  go_enter Try.func9, Try.ntmps9
  go_wp2_with (go_at_call 18; refine (wear_speaks _).mono ?_; rintro e w1 ⟨rfl, hb⟩)
  obtain ⟨wo, hwo⟩ : ∃ wo : World, wo = w1 := ⟨_, rfl⟩
  rw [← hwo] at hb
  rw [← hwo]
  clear hwo
  go_loopw [0, 6, 26] (fun v0 v6 i wr => ∃ (k : Nat) (A5 : Option Addr) (c5 : Nat) (lk : List Ld), k ≤ n ∧ i = .int .i64 k ∧ v0 = .slice A5 n c5 ∧ Evn n k lk ∧ RS wr (.slice A5 n c5) lk ∧ (0 < k → wr.ownsRow w.heap.size 51 4 (.slice A5 n c5) n (lk.flatMap encR)) ∧ Below w.heap.size w wr) (fun _ _ i _ => n - (intOf i).toNat)
  case atStart => exact ⟨0, A, c, ls, Nat.zero_le _, rfl, rfl, ⟨HN.out.symm, fun i hi => absurd hi (Nat.not_lt_zero _)⟩, hX.below hb, fun h => absurd h (Nat.lt_irrefl _), hb⟩
  case round =>
    obtain ⟨k, A5, c5, lk, hk, rfl, rfl, hE, hr, ho, hbk⟩ := hrel
    clear hb hX
    have hsz := hbk.size
    by_cases hlt : k < n
    · obtain ⟨x, hx⟩ : ∃ x, x = lk.getD k ldZ := ⟨_, rfl⟩
      have hkl : k < lk.length := by rw [hE.1]; exact hlt
      have hxg : lk[k] = x := by rw [hx, List.getD_eq_getElem?_getD, List.getElem?_eq_getElem hkl]; rfl
      obtain ⟨b7, hb7, hb7l⟩ := i64_and7 x.cnt
      obtain ⟨b63, hb63, hb63l⟩ := u64_and63 x.wear
      have hat := own_empty (w := wr) (b := wr.heap.size) (base := w.heap.size) (e := 51) (size := 4) rfl hsz
      have hb3 := hbk.alloc hsz (.cells #[] 51)
      have hA := (hr.below ((Below.refl _ _).alloc (Nat.le_refl _) (.cells #[] 51))).at
      have hlen : (lk.flatMap encR).length = n * 4 := by rw [flat_len4, hE.1]
      have hE2 := Lib.hid hE
      have HL := Lib.hid hlen
      have HXG := Lib.hid hxg
      clear ho hr hx hE hlen hxg
      go_wp2_with (at_builtin; refine wp_append w.heap.size rfl _ _ 42 51 (.agg #[.int .u64 0, .int .u64 0, .int .i64 0, .int .i64 0]) 4 32 rfl Try.underlying42 info_ref rfl (by decide) (by decide) (.slice (some ⟨wr.heap.size, 0, none⟩) 0 0) 0 [] A5 n c5 (lk.flatMap encR) rfl rfl hat hA HL.out (encR_one lk) hb3.size (by omega) ?_; intro v1 w2 ho1 hg1 ha1; have hb4 := below_grown hb3 hat hg1 hb3.size; clear hat hA hg1 ha1; rw [Nat.zero_add, List.nil_append] at ho1; obtain ⟨g, c1, rfl, hc1, hg0, hg1, hn63⟩ := own_pos ho1 (by omega); have hkx : lk[k]? = some x := (by rw [List.getElem?_eq_getElem hkl, HXG.out]); obtain ⟨⟨c0, f0⟩, _, _, ⟨d3, f3⟩⟩ := ref_cells ho1 k x hkx; have ho2 := ref_set ho1 k 0 x hkx (.int .u64 ((k : Int) + 1)) ⟨(k : Int) + 1, x.wear, x.blk, x.cnt⟩ (by decide) rfl; have hk2 : (lk.set k ⟨(k : Int) + 1, x.wear, x.blk, x.cnt⟩)[k]? = some ⟨(k : Int) + 1, x.wear, x.blk, x.cnt⟩ := List.getElem?_set_self hkl; obtain ⟨_, _, _, ⟨d3', f3'⟩⟩ := ref_cells ho2 k _ hk2; have ho3 := ref_set ho2 k 3 _ hk2 (.int .i64 (1 + (b7 : Int))) ⟨(k : Int) + 1, x.wear, x.blk, 1 + (b7 : Int)⟩ (by decide) rfl; have hk3 : ((lk.set k ⟨(k : Int) + 1, x.wear, x.blk, x.cnt⟩).set k ⟨(k : Int) + 1, x.wear, x.blk, 1 + (b7 : Int)⟩)[k]? = some ⟨(k : Int) + 1, x.wear, x.blk, 1 + (b7 : Int)⟩ := List.getElem?_set_self (by simpa using hkl); obtain ⟨_, ⟨d1, f1⟩, _, _⟩ := ref_cells ho3 k _ hk3; have ho4 := ref_set ho3 k 1 _ hk3 (.int .u64 (1 + (b63 : Int))) ⟨(k : Int) + 1, 1 + (b63 : Int), x.blk, 1 + (b7 : Int)⟩ (by decide) rfl; have hb5 := ((hb4.setCell (p := ⟨g, k * 4 + 0, none⟩) hg0 (.int .u64 ((k : Int) + 1))).setCell (p := ⟨g, k * 4 + 3, none⟩) hg0 (.int .i64 (1 + (b7 : Int)))).setCell (p := ⟨g, k * 4 + 1, none⟩) hg0 (.int .u64 (1 + (b63 : Int))); rw [List.set_set, List.set_set] at ho4; have HO4 := Lib.hid ho4; clear ho1 ho2 ho3 ho4 hk2 hk3 hkx hb4)
      go_roundw
      case rel =>
        refine ⟨k + 1, _, _, _, by omega, by go_num, rfl, hE2.out.step hlt x b7 b63, own_rs ?_ HO4.out, fun _ => HO4.out, hb5⟩
        rw [List.length_set]; exact hE2.out.1.symm
      case measure => simp [intOf]; omega
    · obtain rfl : k = n := by omega
      have ho1 := ho (by omega)
      obtain ⟨g, c6, he, hc1, hg0, hg1, hn63⟩ := own_pos ho1 (by omega)
      injection he with e1 e2 e3
      subst e1 e3
      clear e2 hr ho
      have hpl : p < lk.length := by rw [hE.1]; exact hpn
      obtain ⟨x, hx⟩ : ∃ x, x = lk.getD p ldZ := ⟨_, rfl⟩
      have hxg : lk[p]? = some x := by rw [hx, List.getD_eq_getElem?_getD, List.getElem?_eq_getElem hpl]; rfl
      obtain ⟨_, _, _, ⟨d3, f3⟩⟩ := ref_cells ho1 p x hxg
      have ho2 := ref_set ho1 p 3 x hxg (.int .i64 1) ⟨x.seq, x.wear, x.blk, 1⟩ (by decide) rfl
      have hk2 : (lk.set p ⟨x.seq, x.wear, x.blk, 1⟩)[p]? = some ⟨x.seq, x.wear, x.blk, 1⟩ := List.getElem?_set_self hpl
      obtain ⟨_, ⟨d1, f1⟩, _, _⟩ := ref_cells ho2 p _ hk2
      have ho3 := ref_set ho2 p 1 _ hk2 (.int .u64 0) ⟨x.seq, 0, x.blk, 1⟩ (by decide) rfl
      rw [List.set_set] at ho3
      have hb5 := (hbk.setCell (p := ⟨g, p * 4 + 3, none⟩) hg0 (.int .i64 1)).setCell (p := ⟨g, p * 4 + 1, none⟩) hg0 (.int .u64 0)
      obtain ⟨b, hv, hb1, hb2, hb3⟩ := even_law hE (by omega) hpn ⟨x.seq, 0, x.blk, 1⟩ (by rw [(hE.2 p hpn).1.symm, ← hx])
      have hr3 := own_rs (by rw [List.length_set]; exact hE.1.symm) ho3
      obtain ⟨L, hL⟩ : ∃ L, L = lk.set p ⟨x.seq, 0, x.blk, 1⟩ := ⟨_, rfl⟩
      have hLl : L.length = k := by rw [hL, List.length_set]; exact hE.1
      rw [← hL] at hv hr3
      have HLl := Lib.hid hLl
      have HL := Lib.hid (fun W h => loads_any (some ⟨g, 0, none⟩) k c5 L W h (by omega))
      have HV := Lib.hid (fun W A n c h => victim_any A n c L W h)
      rw [hv] at HV
      have hsz5 := hb5.size
      clear hv hx hxg hk2 ho1 ho2 ho3 hE hL hLl
      have hb0 : (b : Int) = p ∨ (p : Int) = k - 1 := by omega
      have hb9 : ¬ (b : Int) = k - 1 := by omega
      have hb8 : IntKind.i64.wrap ((k : Int) - 1) = k - 1 := by rw [IntKind.wrap_i64]; omega
      go_wp2_with (first
        | (go_at_call 20; refine (HL.out _ hr3).mono ?_; rintro e w5 ⟨v, rfl, hw, hb6⟩; have hb7 := hb5.trans (hb6.mono hsz5); obtain ⟨A2, c2, rfl, _, _, _⟩ := id hw; rw [HLl.out] at hw ⊢)
        | (go_at_call 19; refine (HV.out _ _ _ _ hw).mono ?_; rintro e w6 ⟨rfl, hb4⟩; have hb10 := hb7.trans (hb4.mono hb7.size)))
      all_goals
        go_ret
        refine ⟨?_, hb10⟩
        show Ending.returned (Value.bool _) = _
        congr 2
        simp
        omega
end Go.Proofs.YtoeonmdcoiemmaaK
