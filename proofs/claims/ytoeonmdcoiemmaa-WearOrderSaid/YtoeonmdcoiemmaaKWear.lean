import Derived.Test.YtoeonmdcoiemmaaRows
import Derived.Test.YtoeonmdcoiemmaaKCore
import Derived.Test.YtoeonmdcoiemmaaKStep
import Derived.Deep.QuietTactic
import Derived.BigQuiet
import Derived.Deep.RegionHeld3
import Derived.WalkLawsBesides
namespace Go.Proofs.YtoeonmdcoiemmaaK
open Go.RowKit
set_option linter.unusedSimpArgs false
set_option linter.unusedVariables false
/-- A segment's numbers. -/
structure Ld where
  seq : Int
  wear : Int
  blk : Int
  cnt : Int
def encR (l : Ld) : List Value := [.int .u64 l.seq, .int .u64 l.wear, .int .i64 l.blk, .int .i64 l.cnt]
def encW (l : Ld) : List Value := [.int .i64 l.blk, .int .u64 l.seq, .int .u64 l.wear, .slice none 0 0, .int .i64 l.cnt]
/-- Which number is less. -/
def cmpI (a b : Int) : Int := if a < b then -1 else if b < a then 1 else 0
/-- Which one is emptied ahead. -/
def lessB (a b : Ld) : Bool := if a.cnt = b.cnt then (if a.wear = b.wear then decide (a.blk < b.blk) else decide (a.wear < b.wear)) else decide (a.cnt < b.cnt)
theorem cmp_int (a b : Int) (w : World) : Calls Try.prog 42 #[.int .i64 a, .int .i64 b] w fun e w' => e = .returned (.int .i64 (cmpI a b)) ∧ w = w' := by
  unfold cmpI
  by_cases h1 : a < b
  · rw [if_pos h1]
    go_enter Try.func42, Try.ntmps42
    go_wp2
    go_ret
    exact ⟨rfl, rfl⟩
  · rw [if_neg h1]
    by_cases h2 : b < a
    · rw [if_pos h2]
      go_enter Try.func42, Try.ntmps42
      go_wp2
      go_ret
      exact ⟨rfl, rfl⟩
    · rw [if_neg h2]
      obtain rfl : a = b := by omega
      go_enter Try.func42, Try.ntmps42
      go_wp2
      go_ret
      exact ⟨rfl, rfl⟩
theorem cmp_u64 (a b : Int) (w : World) : Calls Try.prog 43 #[.int .u64 a, .int .u64 b] w fun e w' => e = .returned (.int .i64 (cmpI a b)) ∧ w = w' := by
  unfold cmpI
  by_cases h1 : a < b
  · rw [if_pos h1]
    go_enter Try.func43, Try.ntmps43
    go_wp2
    go_ret
    exact ⟨rfl, rfl⟩
  · rw [if_neg h1]
    by_cases h2 : b < a
    · rw [if_pos h2]
      go_enter Try.func43, Try.ntmps43
      go_wp2
      go_ret
      exact ⟨rfl, rfl⟩
    · rw [if_neg h2]
      obtain rfl : a = b := by omega
      go_enter Try.func43, Try.ntmps43
      go_wp2
      go_ret
      exact ⟨rfl, rfl⟩
/-- The first that isn't 0. -/
def orI : List Int → Int
  | [] => 0
  | a :: l => if a = 0 then orI l else a
theorem or_int (A : Option Addr) (n c : Nat) (xs : List Int) (w : World) (hX : Is .i64 w (.slice A n c) xs) : Calls Try.prog 41 #[.slice A n c] w fun e w' => e = .returned (.int .i64 (orI xs)) ∧ w = w' := by
  have HN := Lib.hid hX.len
  have hmx := hX.max
  go_enter Try.func41, Try.ntmps41
  go_wp2
  go_loop [5, 8] (fun v i => ∃ k : Nat, k ≤ n ∧ i = .int .i64 k ∧ orI xs = orI (xs.drop k)) (fun _ i => n - (intOf i).toNat)
  case atStart => exact ⟨0, Nat.zero_le _, rfl, rfl⟩
  case round =>
    obtain ⟨k, hk, rfl, hr⟩ := hrel
    have HR := Lib.hid hr
    clear hr
    by_cases hlt : k < n
    · have hkx : k < xs.length := by rw [← HN.out]; exact hlt
      obtain ⟨a, rfl, hc⟩ := hX.at.map k hkx
      obtain ⟨x, hx⟩ : ∃ x, x = xs[k] := ⟨_, rfl⟩
      rw [← hx] at hc
      have hd : orI xs = if x = 0 then orI (xs.drop (k + 1)) else x := by
        rw [HR.out, List.drop_eq_getElem_cons hkx, ← hx]; rfl
      have HD := Lib.hid hd
      clear hx hd
      by_cases h0 : x = 0
      · subst h0
        go_wp2
        go_round
        case rel => exact ⟨k + 1, by omega, by go_num, by rw [HD.out, if_pos rfl]⟩
        case measure => simp [intOf]; omega
      · go_wp2
        go_ret
        exact ⟨by rw [HD.out, if_neg h0]; rfl, rfl⟩
    · obtain rfl : k = n := by omega
      go_wp2
      go_ret
      exact ⟨by rw [HR.out, List.drop_of_length_le (by rw [← HN.out]; exact Nat.le_refl _)]; rfl, rfl⟩
theorem or_less (a b : Ld) : (orI [cmpI a.cnt b.cnt, cmpI a.wear b.wear, cmpI a.blk b.blk] < 0) ↔ lessB a b = true := by
  have key : ∀ x y : Int, (cmpI x y = 0 ↔ x = y) ∧ (cmpI x y < 0 ↔ x < y) := by
    intro x y
    unfold cmpI
    by_cases h1 : x < y
    · rw [if_pos h1]; constructor <;> omega
    · rw [if_neg h1]
      by_cases h2 : y < x
      · rw [if_pos h2]; constructor <;> omega
      · rw [if_neg h2]; constructor <;> omega
  unfold lessB
  simp only [orI]
  by_cases h1 : a.cnt = b.cnt
  · rw [if_pos h1, if_pos ((key _ _).1.2 h1)]
    by_cases h2 : a.wear = b.wear
    · rw [if_pos h2, if_pos ((key _ _).1.2 h2)]
      by_cases h3 : a.blk = b.blk
      · rw [if_pos ((key _ _).1.2 h3)]; simp; omega
      · rw [if_neg (fun e => h3 ((key _ _).1.1 e)), (key _ _).2]; simp
    · rw [if_neg h2, if_neg (fun e => h2 ((key _ _).1.1 e)), (key _ _).2]; simp
  · rw [if_neg h1, if_neg (fun e => h1 ((key _ _).1.1 e)), (key _ _).2]; simp
theorem two_new (W : World) (ca cb : Array Value) (T T' : TypeId) :
    (((W.alloc (.cells ca T)).alloc (.cells cb T')).drew).heap[W.heap.size]? = some (.cells ca T (0, 0)) ∧ (((W.alloc (.cells ca T)).alloc (.cells cb T')).drew).heap[W.heap.size + 1]? = some (.cells cb T' (0, 0)) ∧ Below W.heap.size W (((W.alloc (.cells ca T)).alloc (.cells cb T')).drew) := by
  refine ⟨?_, ?_, (((Below.refl _ _).alloc (Nat.le_refl _) _).alloc (by simp) _).drew⟩
  · show ((W.alloc (.cells ca T)).alloc (.cells cb T')).heap[W.heap.size]? = _
    rw [Below.heap_alloc _ _ _ (by simp)]; exact heap_alloc_new W _
  · show ((W.alloc (.cells ca T)).alloc (.cells cb T')).heap[W.heap.size + 1]? = _
    have h := heap_alloc_new (W.alloc (.cells ca T)) (.cells cb T')
    simpa using h
/-- The program's word for it. -/
theorem less_any (a b : Ld) (w : World) : Calls Try.prog 32 #[.agg (encW a).toArray, .agg (encW b).toArray] w fun e w' => e = .returned (.bool (lessB a b)) ∧ Below w.heap.size w w' := by
  unfold encW
  go_enter Try.func32, Try.ntmps32
  go_wp2_with fail
  obtain ⟨W, hW⟩ : ∃ W, W = (w.alloc (Obj.cells #[Value.int .i64 a.blk, Value.int .u64 a.seq, Value.int .u64 a.wear, Value.slice none 0 0, Value.int .i64 a.cnt] 70)).alloc (Obj.cells #[Value.int .i64 b.blk, Value.int .u64 b.seq, Value.int .u64 b.wear, Value.slice none 0 0, Value.int .i64 b.cnt] 70) := ⟨_, rfl⟩
  have hb : Below w.heap.size w W := by rw [hW]; exact ((Below.refl _ _).alloc (Nat.le_refl _) _).alloc (by simp) _
  obtain ⟨p, hp⟩ : ∃ p, p = w.heap.size := ⟨_, rfl⟩
  have hpW : p + 1 < W.heap.size := by rw [hW, hp]; simp
  have ha : W.heap[p]? = some (.cells #[Value.int .i64 a.blk, Value.int .u64 a.seq, Value.int .u64 a.wear, Value.slice none 0 0, Value.int .i64 a.cnt] 70 (0, 0)) := by
    rw [hW, hp]; exact (two_new w _ _ _ _).1
  have hbb : W.heap[p + 1]? = some (.cells #[Value.int .i64 b.blk, Value.int .u64 b.seq, Value.int .u64 b.wear, Value.slice none 0 0, Value.int .i64 b.cnt] 70 (0, 0)) := by
    rw [hW, hp]; exact (two_new w _ _ _ _).2.1
  rw [← hW, ← hp]
  clear hW hp
  have a0 : W.cell? ⟨p, 0, none⟩ = some (.int .i64 a.blk) := cell_of_row _ _ 0 _ _ _ ha
  have a1 : W.cell? ⟨p, 1, none⟩ = some (.int .u64 a.seq) := cell_of_row _ _ 1 _ _ _ ha
  have a2 : W.cell? ⟨p, 2, none⟩ = some (.int .u64 a.wear) := cell_of_row _ _ 2 _ _ _ ha
  have a3 : W.cell? ⟨p, 3, none⟩ = some (.slice none 0 0) := cell_of_row _ _ 3 _ _ _ ha
  have a4 : W.cell? ⟨p, 4, none⟩ = some (.int .i64 a.cnt) := cell_of_row _ _ 4 _ _ _ ha
  have b0 : W.cell? ⟨p + 1, 0, none⟩ = some (.int .i64 b.blk) := cell_of_row _ _ 0 _ _ _ hbb
  have b1 : W.cell? ⟨p + 1, 1, none⟩ = some (.int .u64 b.seq) := cell_of_row _ _ 1 _ _ _ hbb
  have b2 : W.cell? ⟨p + 1, 2, none⟩ = some (.int .u64 b.wear) := cell_of_row _ _ 2 _ _ _ hbb
  have b3 : W.cell? ⟨p + 1, 3, none⟩ = some (.slice none 0 0) := cell_of_row _ _ 3 _ _ _ hbb
  have b4 : W.cell? ⟨p + 1, 4, none⟩ = some (.int .i64 b.cnt) := cell_of_row _ _ 4 _ _ _ hbb
  go_region_held3 (fun w' => w'.cell? ⟨p, 0, none⟩ = some (.int .i64 a.blk) ∧ w'.cell? ⟨p, 1, none⟩ = some (.int .u64 a.seq) ∧ w'.cell? ⟨p, 2, none⟩ = some (.int .u64 a.wear) ∧ w'.cell? ⟨p, 3, none⟩ = some (.slice none 0 0) ∧ w'.cell? ⟨p + 1, 0, none⟩ = some (.int .i64 b.blk) ∧ w'.cell? ⟨p + 1, 1, none⟩ = some (.int .u64 b.seq) ∧ w'.cell? ⟨p + 1, 2, none⟩ = some (.int .u64 b.wear) ∧ w'.cell? ⟨p + 1, 3, none⟩ = some (.slice none 0 0)) (go_keep) (fail)
  · have hN := two_new W #[Value.int .i64 a.blk, Value.int .u64 a.seq, Value.int .u64 a.wear, Value.slice none 0 0] #[Value.int .i64 b.blk, Value.int .u64 b.seq, Value.int .u64 b.wear, Value.slice none 0 0] 68 68
    have hM := two_new W #[Value.int .i64 b.blk, Value.int .u64 b.seq, Value.int .u64 b.wear, Value.slice none 0 0] #[Value.int .i64 a.blk, Value.int .u64 a.seq, Value.int .u64 a.wear, Value.slice none 0 0] 68 68
    have hF : ∀ (W5 : World) (x y : Nat), W5.heap[x]? = some (.cells #[Value.int .i64 a.blk, Value.int .u64 a.seq, Value.int .u64 a.wear, Value.slice none 0 0] 68 (0, 0)) → W5.heap[y]? = some (.cells #[Value.int .i64 b.blk, Value.int .u64 b.seq, Value.int .u64 b.wear, Value.slice none 0 0] 68 (0, 0)) → Below W.heap.size W W5 →
        (W5.cell? ⟨x, 0, none⟩ = some (.int .i64 a.blk) ∧ W5.cell? ⟨x, 2, none⟩ = some (.int .u64 a.wear) ∧ W5.cell? ⟨y, 0, none⟩ = some (.int .i64 b.blk) ∧ W5.cell? ⟨y, 2, none⟩ = some (.int .u64 b.wear) ∧ W5.cell? ⟨p, 4, none⟩ = some (.int .i64 a.cnt) ∧ W5.cell? ⟨p + 1, 4, none⟩ = some (.int .i64 b.cnt)) :=
      fun W5 x y h1 h2 h3 => ⟨cell_of_row _ _ 0 _ _ _ h1, cell_of_row _ _ 2 _ _ _ h1, cell_of_row _ _ 0 _ _ _ h2, cell_of_row _ _ 2 _ _ _ h2, cell_later h3 a4, cell_later h3 b4⟩
    have hN1 := hF _ _ _ hN.1 hN.2.1 hN.2.2
    have hM1 := hF _ _ _ hM.2.1 hM.1 hM.2.2
    have hNb := hb.trans (hN.2.2.mono hb.size)
    have hMb := hb.trans (hM.2.2.mono hb.size)
    clear hN hM hF a0 a1 a2 a3 a4 b0 b1 b2 b3 b4 ha hbb
    generalize hW5 : ((W.alloc (Obj.cells #[Value.int .i64 a.blk, Value.int .u64 a.seq, Value.int .u64 a.wear, Value.slice none 0 0] 68)).alloc (Obj.cells #[Value.int .i64 b.blk, Value.int .u64 b.seq, Value.int .u64 b.wear, Value.slice none 0 0] 68)).drew = W5 at hN1 hNb ⊢
    clear hM1 hMb hW5
    obtain ⟨x, hx⟩ : ∃ x, x = W.heap.size := ⟨_, rfl⟩
    obtain ⟨y, hy⟩ : ∃ y, y = W.heap.size + 1 := ⟨_, rfl⟩
    rw [← hy, ← hx] at hN1
    rw [← hy, ← hx]
    clear hy hx
    have hc := hN1
    have hb5 := hNb
    clear hN1 hNb
    obtain ⟨c0, c1, c2, c3, c4, c5⟩ := hc
    have HOL := Lib.hid (or_less a b)
    obtain ⟨o, ho⟩ : ∃ o, o = orI [cmpI a.cnt b.cnt, cmpI a.wear b.wear, cmpI a.blk b.blk] := ⟨_, rfl⟩
    rw [← ho] at HOL
    have HO := Lib.hid (fun W A c h => or_int A 3 c [cmpI a.cnt b.cnt, cmpI a.wear b.wear, cmpI a.blk b.blk] W h)
    rw [← ho] at HO
    clear ho
    go_wp2_with fail
    go_region_held3 (fun w' => w'.cell? ⟨x, 0, none⟩ = some (.int .i64 a.blk) ∧ w'.cell? ⟨x, 2, none⟩ = some (.int .u64 a.wear) ∧ w'.cell? ⟨y, 0, none⟩ = some (.int .i64 b.blk) ∧ w'.cell? ⟨y, 2, none⟩ = some (.int .u64 b.wear) ∧ w'.cell? ⟨p, 4, none⟩ = some (.int .i64 a.cnt) ∧ w'.cell? ⟨p + 1, 4, none⟩ = some (.int .i64 b.cnt)) (go_keep)
      ((first
        | (go_at_call 42; refine (cmp_int _ _ _).mono ?_; rintro e w8 ⟨rfl, rfl⟩)
        | (go_at_call 43; refine (cmp_u64 _ _ _).mono ?_; rintro e w8 ⟨rfl, rfl⟩)
        | (go_at_call 41; refine (HO.out _ _ _ (by first | exact Is.new rfl rfl rfl (by decide) | exact (Is.new (w := W5) rfl rfl rfl (by decide)).below (Below.refl _ _).drew)).mono ?_; rintro e w8 ⟨rfl, rfl⟩)))
    all_goals
      go_wp2
      have hlb : lessB a b = decide (o < 0) := by rw [Bool.eq_iff_iff]; simp [HOL.out]
      go_ret
      exact ⟨by rw [hlb]; rfl, (hb5.alloc hb5.size _).drew⟩
  · have hN := two_new W #[Value.int .i64 a.blk, Value.int .u64 a.seq, Value.int .u64 a.wear, Value.slice none 0 0] #[Value.int .i64 b.blk, Value.int .u64 b.seq, Value.int .u64 b.wear, Value.slice none 0 0] 68 68
    have hM := two_new W #[Value.int .i64 b.blk, Value.int .u64 b.seq, Value.int .u64 b.wear, Value.slice none 0 0] #[Value.int .i64 a.blk, Value.int .u64 a.seq, Value.int .u64 a.wear, Value.slice none 0 0] 68 68
    have hF : ∀ (W5 : World) (x y : Nat), W5.heap[x]? = some (.cells #[Value.int .i64 a.blk, Value.int .u64 a.seq, Value.int .u64 a.wear, Value.slice none 0 0] 68 (0, 0)) → W5.heap[y]? = some (.cells #[Value.int .i64 b.blk, Value.int .u64 b.seq, Value.int .u64 b.wear, Value.slice none 0 0] 68 (0, 0)) → Below W.heap.size W W5 →
        (W5.cell? ⟨x, 0, none⟩ = some (.int .i64 a.blk) ∧ W5.cell? ⟨x, 2, none⟩ = some (.int .u64 a.wear) ∧ W5.cell? ⟨y, 0, none⟩ = some (.int .i64 b.blk) ∧ W5.cell? ⟨y, 2, none⟩ = some (.int .u64 b.wear) ∧ W5.cell? ⟨p, 4, none⟩ = some (.int .i64 a.cnt) ∧ W5.cell? ⟨p + 1, 4, none⟩ = some (.int .i64 b.cnt)) :=
      fun W5 x y h1 h2 h3 => ⟨cell_of_row _ _ 0 _ _ _ h1, cell_of_row _ _ 2 _ _ _ h1, cell_of_row _ _ 0 _ _ _ h2, cell_of_row _ _ 2 _ _ _ h2, cell_later h3 a4, cell_later h3 b4⟩
    have hN1 := hF _ _ _ hN.1 hN.2.1 hN.2.2
    have hM1 := hF _ _ _ hM.2.1 hM.1 hM.2.2
    have hNb := hb.trans (hN.2.2.mono hb.size)
    have hMb := hb.trans (hM.2.2.mono hb.size)
    clear hN hM hF a0 a1 a2 a3 a4 b0 b1 b2 b3 b4 ha hbb
    generalize hW5 : ((W.alloc (Obj.cells #[Value.int .i64 b.blk, Value.int .u64 b.seq, Value.int .u64 b.wear, Value.slice none 0 0] 68)).alloc (Obj.cells #[Value.int .i64 a.blk, Value.int .u64 a.seq, Value.int .u64 a.wear, Value.slice none 0 0] 68)).drew = W5 at hM1 hMb ⊢
    clear hN1 hNb hW5
    obtain ⟨y, hy⟩ : ∃ y, y = W.heap.size := ⟨_, rfl⟩
    obtain ⟨x, hx⟩ : ∃ x, x = W.heap.size + 1 := ⟨_, rfl⟩
    rw [← hx, ← hy] at hM1
    rw [← hx, ← hy]
    clear hy hx
    have hc := hM1
    have hb5 := hMb
    clear hM1 hMb
    obtain ⟨c0, c1, c2, c3, c4, c5⟩ := hc
    have HOL := Lib.hid (or_less a b)
    obtain ⟨o, ho⟩ : ∃ o, o = orI [cmpI a.cnt b.cnt, cmpI a.wear b.wear, cmpI a.blk b.blk] := ⟨_, rfl⟩
    rw [← ho] at HOL
    have HO := Lib.hid (fun W A c h => or_int A 3 c [cmpI a.cnt b.cnt, cmpI a.wear b.wear, cmpI a.blk b.blk] W h)
    rw [← ho] at HO
    clear ho
    go_wp2_with fail
    go_region_held3 (fun w' => w'.cell? ⟨x, 0, none⟩ = some (.int .i64 a.blk) ∧ w'.cell? ⟨x, 2, none⟩ = some (.int .u64 a.wear) ∧ w'.cell? ⟨y, 0, none⟩ = some (.int .i64 b.blk) ∧ w'.cell? ⟨y, 2, none⟩ = some (.int .u64 b.wear) ∧ w'.cell? ⟨p, 4, none⟩ = some (.int .i64 a.cnt) ∧ w'.cell? ⟨p + 1, 4, none⟩ = some (.int .i64 b.cnt)) (go_keep)
      ((first
        | (go_at_call 42; refine (cmp_int _ _ _).mono ?_; rintro e w8 ⟨rfl, rfl⟩)
        | (go_at_call 43; refine (cmp_u64 _ _ _).mono ?_; rintro e w8 ⟨rfl, rfl⟩)
        | (go_at_call 41; refine (HO.out _ _ _ (by first | exact Is.new rfl rfl rfl (by decide) | exact (Is.new (w := W5) rfl rfl rfl (by decide)).below (Below.refl _ _).drew)).mono ?_; rintro e w8 ⟨rfl, rfl⟩)))
    all_goals
      go_wp2
      have hlb : lessB a b = decide (o < 0) := by rw [Bool.eq_iff_iff]; simp [HOL.out]
      go_ret
      exact ⟨by rw [hlb]; rfl, (hb5.alloc hb5.size _).drew⟩
/-- The reference's word for it. -/
theorem rless_any (a b : Ld) (w : World) : Calls Try.prog 33 #[.agg (encR a).toArray, .agg (encR b).toArray] w fun e w' => e = .returned (.bool (lessB a b)) ∧ Below w.heap.size w w' := by
  unfold encR lessB
  by_cases h1 : a.cnt = b.cnt
  · rw [if_pos h1]
    have H1 := Lib.hid h1
    have e1 : (a.cnt != b.cnt) = false := by simp [h1]
    clear h1
    by_cases h2 : a.wear = b.wear
    · rw [if_pos h2]
      have e2 : (a.wear != b.wear) = false := by simp [h2]
      clear h2
      go_enter Try.func33, Try.ntmps33
      go_wp2
      go_ret
      exact ⟨rfl, ((Below.refl _ _).alloc (Nat.le_refl _) _).alloc (by simp) _⟩
    · rw [if_neg h2]
      have e2 : (a.wear != b.wear) = true := by simp [h2]
      clear h2
      go_enter Try.func33, Try.ntmps33
      go_wp2
      go_ret
      exact ⟨rfl, ((Below.refl _ _).alloc (Nat.le_refl _) _).alloc (by simp) _⟩
  · rw [if_neg h1]
    have e1 : (a.cnt != b.cnt) = true := by simp [h1]
    clear h1
    go_enter Try.func33, Try.ntmps33
    go_wp2
    go_ret
    exact ⟨rfl, ((Below.refl _ _).alloc (Nat.le_refl _) _).alloc (by simp) _⟩
end Go.Proofs.YtoeonmdcoiemmaaK
