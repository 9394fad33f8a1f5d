import Derived.Test.YtljdfhckllncoaaKNodeS
import Derived.Test.YtljdfhckllncoaaKStep
import Derived.Test.YtljdfhckllncoaaKPackF
namespace Go.Proofs.YtljdfhckllncoaaK
open Go.RowKit
set_option linter.unusedSimpArgs false
set_option linter.unusedVariables false
theorem own_lit {w : World} {base b n : Nat} {e : TypeId} (cs : Array Value) (hb : b = w.heap.size) (h : base ≤ w.heap.size) (hn : cs.size = n) (hm : n ≤ maxLen) : (w.alloc (.cells cs e)).ownsRow base e 1 (.slice (some ⟨b, 0, none⟩) n n) n cs.toList := by
  subst hb
  exact ⟨by simp [hn], .inr ⟨w.heap.size, n, cs, rfl, h, heap_alloc_new w _, Nat.le_refl _, hm, by omega, by rw [Nat.mul_one]; exact (List.take_of_length_le (by rw [Array.length_toList, hn]; exact Nat.le_refl _))⟩⟩
theorem u8_wrap_nat (k : Nat) (h : k < 256) : encB (UInt8.ofNat k) = .int .u8 (k : Int) := by
  unfold encB
  rw [UInt8.toNat_ofNat_of_lt' h]
set_option maxRecDepth 10000 in
theorem rwrite_neg (k ep : Int) (A : Option Addr) (n c : Nat) (w : World) (h : k < 0 ∨ 256 ≤ k ∨ 224 < n) :
    Calls Try.prog 30 #[.agg #[.int .i64 k, .int .u64 ep, .slice A n c]] w fun e w' => ∃ v, e = .returned (.tuple #[v, .int .i64 1]) ∧ Bs w' v [] ∧ Below w.heap.size w w' := by
  by_cases h1 : k < 0
  · clear h
    go_enter Try.func30, Try.ntmps30
    go_wp2
    go_ret2
    exact ⟨_, rfl, Bs.new (by first | rfl | simp) rfl rfl (by omega), ((Below.refl _ _).alloc (Nat.le_refl _) _).alloc (by simp) _⟩
  by_cases h2 : 256 ≤ k
  · clear h
    go_enter Try.func30, Try.ntmps30
    go_wp2
    go_ret2
    exact ⟨_, rfl, Bs.new (by first | rfl | simp) rfl rfl (by omega), ((Below.refl _ _).alloc (Nat.le_refl _) _).alloc (by simp) _⟩
  have h3 : 224 < n := by omega
  clear h
  go_enter Try.func30, Try.ntmps30
  go_wp2
  go_ret2
  exact ⟨_, rfl, Bs.new (by first | rfl | simp) rfl rfl (by omega), ((Below.refl _ _).alloc (Nat.le_refl _) _).alloc (by simp) _⟩
set_option maxRecDepth 10000 in
set_option maxHeartbeats 2000000 in
theorem rwrite_ok (k ep : Nat) (A : Option Addr) (n c : Nat) (bs : List UInt8) (w : World) (hk : k < 256) (he : ep < 18446744073709551616) (hn : n ≤ 224) (hX : Bs w (.slice A n c) bs) :
    Calls Try.prog 30 #[.agg #[.int .i64 (k : Int), .int .u64 (ep : Int), .slice A n c]] w fun e w' => ∃ v, e = .returned (.tuple #[v, .int .i64 0]) ∧ Bs w' v (nodeB k ep bs) ∧ Below w.heap.size w w' := by
  have HNum := Lib.hid (fun W (N : Nat) h => refnum_any 8 N W h)
  rw [show wid 8 = 8 from rfl] at HNum
  have HL := Lib.hid hX.len
  have hk0 : (0 : Int) ≤ k := by omega
  have e1 : IntKind.u8.wrap (k : Int) = k := by rw [IntKind.wrap_u8]; omega
  have tok : True := trivial
  go_enter Try.func30, Try.ntmps30
  go_wp2
  obtain ⟨xb, hxb⟩ : ∃ xb, xb = w.heap.size := ⟨_, rfl⟩
  obtain ⟨W, hW⟩ : ∃ W, W = w.alloc (.cells #[.int .i64 (k : Int), .int .u64 (ep : Int), .slice A n c] 45) := ⟨_, rfl⟩
  have hb0 : Below w.heap.size w W := by rw [hW]; exact (Below.refl _ _).alloc (Nat.le_refl _) _
  have hrow : W.heap[xb]? = some (.cells #[.int .i64 (k : Int), .int .u64 (ep : Int), .slice A n c] 45 (0, 0)) := by rw [hW, hxb]; exact heap_alloc_new w _
  have x0 : W.cell? ⟨xb, 0, none⟩ = some (.int .i64 (k : Int)) := cell_of_row _ _ 0 _ _ _ hrow
  have x1 : W.cell? ⟨xb, 1, none⟩ = some (.int .u64 (ep : Int)) := cell_of_row _ _ 1 _ _ _ hrow
  have x2 : W.cell? ⟨xb, 2, none⟩ = some (.slice A n c) := cell_of_row _ _ 2 _ _ _ hrow
  rw [← hW, ← hxb]
  have hX0 := hX.below hb0
  clear hW hxb hrow
  have hbA0 := (Below.refl W.heap.size W).alloc (Nat.le_refl _) (.cells #[.int .u8 (k : Int)] 5)
  have hbA := hbA0.drew
  have hoA := World.ownsRow.drew (own_lit (w := W) (e := 5) (n := 1) #[.int .u8 (k : Int)] rfl (Nat.le_refl _) rfl (by decide))
  have HL8 := Lib.hid (by simp [numB_length] : ((numB 8 ep).map encB).length = 8 * 1)
  have HLn := Lib.hid hX.cells
  go_region_held3 (fun w' => w'.cell? ⟨xb, 0, none⟩ = some (.int .i64 (k : Int)) ∧ w'.cell? ⟨xb, 1, none⟩ = some (.int .u64 (ep : Int)) ∧ w'.cell? ⟨xb, 2, none⟩ = some (.slice A n c)) (first | exact ⟨cell_later hB1 x0, cell_later hB1 x1, cell_later hB1 x2⟩ | exact ⟨cell_later hB4 x0, cell_later hB4 x1, cell_later hB4 x2⟩ | exact ⟨cell_later hB3 x0, cell_later hB3 x1, cell_later hB3 x2⟩ | exact ⟨cell_later hB2 x0, cell_later hB2 x1, cell_later hB2 x2⟩ | exact ⟨cell_later hbA x0, cell_later hbA x1, cell_later hbA x2⟩ | exact ⟨cell_later hbA0 x0, cell_later hbA0 x1, cell_later hbA0 x2⟩ | exact ⟨x0, x1, x2⟩ | assumption)
    ((first
      | (go_at_call 33; refine (HNum.out ((W.alloc (.cells #[.int .u8 (k : Int)] 5)).drew) ep he).mono ?_; rintro e w2 ⟨v, rfl, ho2, hb2⟩; obtain ⟨A6, c6, rfl, _, _⟩ := own_form ho2; have hB2 := hbA.trans (hb2.mono hbA.size); have hoA2 := own_below hoA hb2)
      | (go_at_call 33; refine (HNum.out W.drew ep he).mono ?_; rintro e w2 ⟨v, rfl, ho2, hb2⟩; obtain ⟨A6, c6, rfl, _, _⟩ := own_form ho2; have hB1 := (Below.refl W.heap.size W).drew.trans (hb2.mono (Nat.le_refl _)); have hB2 := hB1.alloc hB1.size (.cells #[.int .u8 (k : Int)] 5); have hoB2 := own_lit (w := w2) (e := 5) (n := 1) #[.int .u8 (k : Int)] rfl hB1.size rfl (by decide); have hoC2 := ho2.alloc (.cells #[.int .u8 (k : Int)] 5))
      | (have _t := tok; refine step_append W.heap.size rfl _ _ 22 5 (.int .u8 0) 1 1 rfl Try.underlying22 info_u8 rfl (by decide) (by decide) (.slice (some ⟨W.heap.size, 0, none⟩) 1 1) 1 [.int .u8 (k : Int)] A6 8 c6 ((numB 8 ep).map encB) (by simp [Act.eval, Act.put]) (by simp [Act.eval, Act.put]) hoA2 (own_at ho2) HL8.out (encB_all _) hB2.size (by omega) ?_; intro v3 w3 ho3 hg3 ha3; have hB3 := below_grown hB2 hoA2 hg3 hB2.size; obtain ⟨A7, c7, rfl, _, _⟩ := own_form ho3; clear tok _t)
      | (have _t := tok; refine step_append W.heap.size rfl _ _ 22 5 (.int .u8 0) 1 1 rfl Try.underlying22 info_u8 rfl (by decide) (by decide) (.slice (some ⟨w2.heap.size, 0, none⟩) 1 1) 1 [.int .u8 (k : Int)] A6 8 c6 ((numB 8 ep).map encB) (by simp [Act.eval, Act.put]) (by simp [Act.eval, Act.put]) hoB2 (own_at hoC2) HL8.out (encB_all _) hB2.size (by omega) ?_; intro v3 w3 ho3 hg3 ha3; have hB3 := below_grown hB2 hoB2 hg3 hB2.size; obtain ⟨A7, c7, rfl, _, _⟩ := own_form ho3; clear tok _t)
      | (refine step_append W.heap.size rfl _ _ 22 5 (.int .u8 0) 1 1 rfl Try.underlying22 info_u8 rfl (by decide) (by decide) (.slice A7 (1 + 8) c7) (1 + 8) _ A n c (bs.map encB) (by simp [Act.eval, Act.put]) (by simp [Act.eval, Act.put]) ho3 (hX0.below hB3).at HLn.out (encB_all _) hB3.size (by omega) ?_; intro v4 w4 ho4 hg4 ha4; have hB4 := below_grown hB3 ho3 hg4 hB3.size; obtain ⟨A8, c8, rfl, _, _⟩ := own_form ho4)))
  all_goals
    go_wp2
    go_ret2
    refine ⟨_, rfl, ?_, hb0.trans (hB4.mono hb0.size)⟩
    have e3 : [Value.int .u8 (k : Int)] ++ (numB 8 ep).map encB ++ bs.map encB = (nodeB k ep bs).map encB := by
      unfold nodeB
      rw [List.map_append, List.map_append, List.append_assoc]
      congr 1
      show _ = [encB (UInt8.ofNat (k % 256))]
      rw [encB_ofNat]
      congr 2
      omega
    rw [e3] at ho4
    have h9 := own_bs ho4
    rw [show 1 + 8 + n = (nodeB k ep bs).length from h9.1]
    rw [h9.1] at h9
    exact h9.2
end Go.Proofs.YtljdfhckllncoaaK
