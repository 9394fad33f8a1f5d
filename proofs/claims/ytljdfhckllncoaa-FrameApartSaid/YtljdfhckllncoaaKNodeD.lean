import Derived.Test.YtljdfhckllncoaaKNodeR
import Derived.Laws.ResultCell
import Derived.Lib.SmallJoins
namespace Go.Proofs.YtljdfhckllncoaaK
open Go.RowKit
set_option linter.unusedSimpArgs false
set_option linter.unusedVariables false
theorem rnum_in (b D : Nat) (bs : List UInt8) (bad : Bool) (s : Int) (k : Nat) (w : World) (hs : wid s = k) (hk : k ≤ bs.length) (h : Rdr w b D bs bad) (hl : bs.length ≤ 140737488355328) :
    Calls Try.prog 42 #[.pointer (some ⟨b, 0, none⟩), .int .i64 s] w fun e w' => e = .returned (.int .u64 (numV (bs.take k) : Int)) ∧ Rdr w' b D (bs.drop k) bad ∧ w.grownBy w' (some b) := by
  have h0 := rnum_any b D bs bad s w h hl
  have e1 : ¬ (bs.length : Int) < max ((k : Nat) : Int) 0 := by omega
  have e2 : (max ((k : Nat) : Int) 0).toNat = k := by omega
  rw [hs] at h0
  unfold rdTake rdLeft rdBad at h0
  rw [if_neg e1, if_neg e1, if_neg e1, e2] at h0
  exact h0
theorem rbytes_all (b D : Nat) (bs : List UInt8) (bad : Bool) (w : World) (h : Rdr w b D bs bad) (hl : bs.length ≤ 140737488355328) :
    Calls Try.prog 50 #[.pointer (some ⟨b, 0, none⟩), .int .i64 (bs.length : Int)] w fun e w' => ∃ v n, e = .returned v ∧ w'.ownsRow w.heap.size 5 1 v n (bs.map encB) ∧ w.grownBy w' (some b) := by
  have h0 := bytes_any b D bs bad (bs.length : Int) w h hl
  have e1 : ¬ (bs.length : Int) < max ((bs.length : Nat) : Int) 0 := by omega
  have e2 : (max ((bs.length : Nat) : Int) 0).toNat = bs.length := by omega
  unfold rdTake rdLeft rdBad at h0
  rw [if_neg e1, if_neg e1, if_neg e1, e2, List.take_length] at h0
  refine h0.mono ?_
  rintro e w' ⟨v, n, h1, h2, h3, h4⟩
  exact ⟨v, n, h1, h2, h4⟩
theorem own_mono {w : World} {B B' n size : Nat} {e : TypeId} {v : Value} {xs : List Value} (h : w.ownsRow B e size v n xs) (hB : B' ≤ B) : w.ownsRow B' e size v n xs := by
  refine ⟨h.1, ?_⟩
  rcases h.2 with h1 | ⟨g, cap, cur, h1, h2, h3⟩
  · exact .inl h1
  · exact .inr ⟨g, cap, cur, h1, Nat.le_trans hB h2, h3⟩
def nodeK (bs : List UInt8) : Nat := numV (bs.take 1)
def nodeE (bs : List UInt8) : Nat := numV ((bs.drop 1).take 8)
theorem node_row3 {w : World} {g : Nat} {a0 a1 a2 : Value} (h : w.heap[g]? = some (.cells #[a0, a1, a2] 45 (0, 0))) (b0 b1 b2 : Value) :
    (((w.setCell ⟨g, 0, none⟩ b0).setCell ⟨g, 1, none⟩ b1).setCell ⟨g, 2, none⟩ b2).heap[g]? = some (.cells #[b0, b1, b2] 45 (0, 0)) :=
  Go.Joins.block_setCell (Go.Joins.block_setCell (Go.Joins.block_setCell h b0) b1) b2
theorem node_load {w : World} {g : Nat} {b0 b1 b2 : Value} (h : w.heap[g]? = some (.cells #[b0, b1, b2] 45 (0, 0))) : (loadVar 45 ⟨g, 0, none⟩).run Try.prog w = .ok (.agg #[b0, b1, b2]) w :=
  run_loadVar_row w g 45 45 #[b0, b1, b2] (0, 0) _ h Try.underlying45 rfl (by kernel_rfl)
theorem node_below3 {B : Nat} {a w : World} (h : Below B a w) {g : Nat} (hg : B ≤ g) (b0 b1 b2 : Value) : Below B a (((w.setCell ⟨g, 0, none⟩ b0).setCell ⟨g, 1, none⟩ b1).setCell ⟨g, 2, none⟩ b2) :=
  ((h.setCell (p := ⟨g, 0, none⟩) hg _).setCell (p := ⟨g, 1, none⟩) hg _).setCell (p := ⟨g, 2, none⟩) hg _
theorem own_set3 {w : World} {B n size g : Nat} {e : TypeId} {v : Value} {xs : List Value} (h : w.ownsRow B e size v n xs) (hg : g < B) (b0 b1 b2 : Value) :
    (((w.setCell ⟨g, 0, none⟩ b0).setCell ⟨g, 1, none⟩ b1).setCell ⟨g, 2, none⟩ b2).ownsRow B e size v n xs := by
  have hne : ∀ k, v.ownBlock = some k → k ≠ g := fun k hk => by have := (h.lt k hk).1; omega
  have h1 : w.grownBy (((w.setCell ⟨g, 0, none⟩ b0).setCell ⟨g, 1, none⟩ b1).setCell ⟨g, 2, none⟩ b2) (some g) := grown_trans (grown_trans (grown_set w g 0 b0) (grown_set _ g 1 b1)) (grown_set _ g 2 b2)
  exact h.kept h1 (by
    cases hv : v.ownBlock with
    | none => simp
    | some k => simpa using hne k hv)
set_option maxRecDepth 10000 in
theorem read_bad (A : Option Addr) (n c : Nat) (w : World) (h : n < 9 ∨ 233 < n) :
    Calls Try.prog 31 #[.slice A n c] w fun e w' => e = .returned (.tuple #[.agg #[.int .i64 0, .int .u64 0, .slice none 0 0], .int .i64 11]) ∧ Below w.heap.size w w' := by
  have hb0 : Below w.heap.size w (w.alloc (.cells #[.int .i64 0, .int .u64 0, .slice none 0 0] 45)) := (Below.refl _ _).alloc (Nat.le_refl _) _
  have hld := node_load (heap_alloc_new w (.cells #[.int .i64 0, .int .u64 0, .slice none 0 0] 45))
  have hbb := hb0
  have HLD := Lib.hid hld
  clear hld
  by_cases h1 : n < 9
  · clear h
    go_enter Try.func31, Try.ntmps31
    go_wp2
    refine bodyPost_ret (v := .tuple #[.agg #[.int .i64 0, .int .u64 0, .slice none 0 0], .int .i64 11]) ?_ rfl ⟨rfl, hbb⟩
    rw [results_cell_tmp rfl]
    simp [asAddr, Result.andThen, HLD.out]
  have h2 : 233 < n := by omega
  clear h
  go_enter Try.func31, Try.ntmps31
  go_wp2
  refine bodyPost_ret (v := .tuple #[.agg #[.int .i64 0, .int .u64 0, .slice none 0 0], .int .i64 11]) ?_ rfl ⟨rfl, hbb⟩
  rw [results_cell_tmp rfl]
  simp [asAddr, Result.andThen, HLD.out]
set_option maxRecDepth 10000 in
set_option maxHeartbeats 2000000 in
theorem read_ok (A : Option Addr) (n c : Nat) (bs : List UInt8) (w : World) (hX : Bs w (.slice A n c) bs) (h9 : 9 ≤ n) (hn : n ≤ 233) :
    Calls Try.prog 31 #[.slice A n c] w fun e w' => ∃ v m, e = .returned (.tuple #[.agg #[.int .i64 (nodeK bs : Int), .int .u64 (nodeE bs : Int), v], .int .i64 0]) ∧ w'.ownsRow w.heap.size 5 1 v m ((bs.drop 9).map encB) ∧ Below w.heap.size w w' := by
  have HL := Lib.hid hX.len
  have hl := hX.len
  have HN := Lib.hid (fun W h => new_any A n c bs W h (by omega))
  have H1 := Lib.hid (fun b D W h => rnum_in b D bs false 1 1 W rfl (by omega) h (by omega))
  have H8 := Lib.hid (fun b D W h => rnum_in b D (bs.drop 1) false 8 8 W rfl (by rw [List.length_drop]; omega) h (by rw [List.length_drop]; omega))
  rw [List.drop_drop] at H8
  obtain ⟨Y, hY⟩ : ∃ Y, Y = bs.drop 9 := ⟨_, rfl⟩
  have hYl : Y.length ≤ 140737488355328 := by rw [hY, List.length_drop]; omega
  rw [show 1 + 8 = 9 from rfl, ← hY] at H8
  rw [← hY]
  have HLf := Lib.hid (fun b D W h => left_any b D Y false W h)
  have HB := Lib.hid (fun b D W h => rbytes_all b D Y false W h hYl)
  clear hY hYl
  have hk1 := numV_lt (bs.take 1)
  have e1 : IntKind.i64.wrap ((nodeK bs : Nat) : Int) = nodeK bs := by
    have h1 : (bs.take 1).length ≤ 1 := by rw [List.length_take]; omega
    have h2 : nodeK bs < 256 := Nat.lt_of_lt_of_le hk1 (by have := Nat.pow_le_pow_right (n := 256) (by decide) h1; simpa using this)
    rw [IntKind.wrap_i64]; omega
  rw [show numV (bs.take 1) = nodeK bs from rfl] at H1
  rw [show numV ((bs.drop 1).take 8) = nodeE bs from rfl] at H8
  obtain ⟨K, hK⟩ : ∃ K, K = nodeK bs := ⟨_, rfl⟩
  obtain ⟨E, hE⟩ : ∃ K, K = nodeE bs := ⟨_, rfl⟩
  rw [← hK] at H1 e1
  rw [← hE] at H8
  rw [← hK, ← hE]
  clear hK hE hk1 hl
  have tok : True := trivial
  obtain ⟨W0, hW0⟩ : ∃ W0, W0 = w.alloc (.cells #[.int .i64 0, .int .u64 0, .slice none 0 0] 45) := ⟨_, rfl⟩
  obtain ⟨xb, hxb⟩ : ∃ xb, xb = w.heap.size := ⟨_, rfl⟩
  have hb0 : Below w.heap.size w W0 := by rw [hW0]; exact (Below.refl _ _).alloc (Nat.le_refl _) _
  have hrow : W0.heap[xb]? = some (.cells #[.int .i64 0, .int .u64 0, .slice none 0 0] 45 (0, 0)) := by rw [hW0, hxb]; exact heap_alloc_new w _
  have HX := Lib.hid (hX.below hb0)
  have HG := Lib.hid (show w.heap.size ≤ xb by rw [hxb]; exact Nat.le_refl _)
  go_enter Try.func31, Try.ntmps31
  go_wp2_with fail
  rw [← hW0, ← hxb]
  clear hW0 hxb hX
  go_wp2_with (first
    | (go_at_call 41; refine (HN.out _ HX.out).mono ?_; rintro e w1 ⟨rb, D, rfl, hrb, _, _, hr1, hb1⟩)
    | (go_at_call 42; have _t := tok; refine (H1.out _ _ _ (by exact hr1)).mono ?_; rintro e w2 ⟨rfl, hr2, hg2⟩; have hb2 := below_row hb1 hg2 hb1.size hrb; clear _t tok)
    | (go_at_call 42; refine (H8.out _ _ _ (by exact hr2)).mono ?_; rintro e w3 ⟨rfl, hr3, hg3⟩; have hb3 := below_row hb2 hg3 hb2.size hrb)
    | (go_at_call 51; refine (HLf.out _ _ _ (by exact hr3)).mono ?_; rintro e w4 ⟨rfl, rfl⟩)
    | (go_at_call 50; refine (HB.out _ _ _ (by exact hr3)).mono ?_; rintro e w5 ⟨v, m, rfl, ho5, hg5⟩; have hb5 := below_row hb3 hg5 hb3.size hrb; obtain ⟨A6, c6, rfl, _, _⟩ := own_form ho5; have hrow5 := (hb5.block xb (Array.getElem?_eq_some_iff.1 hrow).1).trans hrow; have y0 := cell_of_row _ _ 0 _ _ _ hrow5; have y1 := cell_of_row _ _ 1 _ _ _ hrow5; have y2 := cell_of_row _ _ 2 _ _ _ hrow5; have z0 := frozen_of hrow5 0; have z1 := frozen_of hrow5 1; have z2 := frozen_of hrow5 2))
  have hlt : xb < w3.heap.size := Nat.lt_of_lt_of_le (Array.getElem?_eq_some_iff.1 hrow).1 hb3.size
  have hge : w.heap.size ≤ w3.heap.size := Nat.le_trans hb0.size hb3.size
  have hfin := own_mono (own_set3 ho5 hlt (.int .i64 (K : Int)) (.int .u64 (E : Int)) (.slice A6 m c6)) hge
  have hbf := node_below3 (hb0.trans (hb5.mono hb0.size)) HG.out (.int .i64 (K : Int)) (.int .u64 (E : Int)) (.slice A6 m c6)
  have HLD := Lib.hid (node_load (node_row3 hrow5 (.int .i64 (K : Int)) (.int .u64 (E : Int)) (.slice A6 m c6)))
  refine bodyPost_ret (v := .tuple #[.agg #[.int .i64 (K : Int), .int .u64 (E : Int), .slice A6 m c6], .int .i64 0]) ?_ rfl ⟨_, _, rfl, hfin, hbf⟩
  rw [results_cell_tmp rfl]
  simp [asAddr, Result.andThen, HLD.out]
end Go.Proofs.YtljdfhckllncoaaK
