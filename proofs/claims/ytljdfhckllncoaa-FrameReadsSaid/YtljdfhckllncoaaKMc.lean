import Derived.Test.YtljdfhckllncoaaKMb
import Derived.Deep.RegionHeld3
import Derived.Test.YtljdfhckllncoaaKMa
import Derived.Laws.ResultCell
import Derived.Lib.SmallJoins
import Derived.Deep.MidRow
import Derived.Deep.DeepCutAuto
namespace Go.Proofs.YtljdfhckllncoaaK
open Go.RowKit
set_option linter.unusedSimpArgs false
set_option linter.unusedVariables false
/-- A node's bytes. -/
def nodeB (k ep : Nat) (bs : List UInt8) : List UInt8 := numB 1 k ++ (numB 8 ep ++ bs)
theorem nodeB_length (k ep : Nat) (bs : List UInt8) : (nodeB k ep bs).length = 9 + bs.length := by
  unfold nodeB
  rw [List.length_append, List.length_append, numB_length, numB_length]; omega
theorem Fresh.mono {B B' : Nat} {w : World} {v : Value} {bs : List UInt8} (h : Fresh B w v bs) (hB : B' ≤ B) : Fresh B' w v bs :=
  ⟨h.1, fun hne => by obtain ⟨g, c, hv, hg, hf⟩ := h.2 hne; exact ⟨g, c, hv, Nat.le_trans hB hg, hf⟩⟩
theorem write_neg (k ep : Int) (A : Option Addr) (n c : Nat) (w : World) (h : k < 0 ∨ 256 ≤ k ∨ 224 < n) :
    Calls Try.prog 21 #[.agg #[.int .i64 k, .int .u64 ep, .slice A n c]] w fun e w' => e = .returned (.tuple #[.slice none 0 0, .int .i64 1]) ∧ Below w.heap.size w w' := by
  by_cases h1 : k < 0
  · clear h
    go_enter Try.func21, Try.ntmps21
    go_wp2
    go_ret2
    exact ⟨rfl, (Below.refl _ _).alloc (Nat.le_refl _) _⟩
  by_cases h2 : 256 ≤ k
  · clear h
    go_enter Try.func21, Try.ntmps21
    go_wp2
    go_ret2
    exact ⟨rfl, (Below.refl _ _).alloc (Nat.le_refl _) _⟩
  have h3 : 224 < n := by omega
  clear h
  go_enter Try.func21, Try.ntmps21
  go_wp2
  go_ret2
  exact ⟨rfl, (Below.refl _ _).alloc (Nat.le_refl _) _⟩
set_option maxRecDepth 10000 in
set_option maxHeartbeats 2000000 in
theorem write_ok (k ep : Nat) (A : Option Addr) (n c : Nat) (bs : List UInt8) (w : World) (hk : k < 256) (he : ep < 18446744073709551616) (hn : n ≤ 224) (hX : Bs w (.slice A n c) bs) :
    Calls Try.prog 21 #[.agg #[.int .i64 (k : Int), .int .u64 (ep : Int), .slice A n c]] w fun e w' => ∃ v, e = .returned (.tuple #[v, .int .i64 0]) ∧ Fresh w.heap.size w' v (nodeB k ep bs) ∧ Below w.heap.size w w' := by
  have HNum := Lib.hid (fun W (s : Int) (N : Nat) h => num_any s N W h)
  have HJ := Lib.hid (fun W A n c xss h h1 h2 => pjoin_any A n c xss W h h1 h2)
  have HL := Lib.hid hX.len
  have hk0 : (0 : Int) ≤ k := by omega
  have e1 : IntKind.u64.wrap (k : Int) = k := by rw [IntKind.wrap_u64]; omega
  have tok : True := trivial
  go_enter Try.func21, Try.ntmps21
  go_wp2
  obtain ⟨xb, hxb⟩ : ∃ xb, xb = w.heap.size := ⟨_, rfl⟩
  obtain ⟨W, hW⟩ : ∃ W, W = w.alloc (.cells #[.int .i64 (k : Int), .int .u64 (ep : Int), .slice A n c] 45) := ⟨_, rfl⟩
  have hb0 : Below w.heap.size w W := by rw [hW]; exact (Below.refl _ _).alloc (Nat.le_refl _) _
  have hrow : W.heap[xb]? = some (.cells #[.int .i64 (k : Int), .int .u64 (ep : Int), .slice A n c] 45 (0, 0)) := by rw [hW, hxb]; exact heap_alloc_new w _
  have x0 : W.cell? ⟨xb, 0, none⟩ = some (.int .i64 (k : Int)) := cell_of_row _ _ 0 _ _ _ hrow
  have x1 : W.cell? ⟨xb, 1, none⟩ = some (.int .u64 (ep : Int)) := cell_of_row _ _ 1 _ _ _ hrow
  have x2 : W.cell? ⟨xb, 2, none⟩ = some (.slice A n c) := cell_of_row _ _ 2 _ _ _ hrow
  rw [← hW, ← hxb]
  have hX0 := (hX.below hb0)
  clear hW hxb hrow
  have hbd := hb0.drew
  have hXd := hX0.below (Below.refl W.heap.size W).drew
  have hlens : Lib.lens [numB (wid 1) k, numB (wid 8) ep, bs] ≤ 140737488355328 := by rw [lens3, numB_length, numB_length, ← HL.out]; have := wid_le 1; have := wid_le 8; omega
  have HLens := Lib.hid hlens
  clear hlens

  go_region_held3 (fun w' => w'.cell? ⟨xb, 0, none⟩ = some (.int .i64 (k : Int)) ∧ w'.cell? ⟨xb, 1, none⟩ = some (.int .u64 (ep : Int)) ∧ w'.cell? ⟨xb, 2, none⟩ = some (.slice A n c)) (first | exact ⟨x0, x1, x2⟩ | exact ⟨cell_later hb2 (cell_later hb1 x0), cell_later hb2 (cell_later hb1 x1), cell_later hb2 (cell_later hb1 x2)⟩ | exact ⟨cell_later hb1 x0, cell_later hb1 x1, cell_later hb1 x2⟩ | assumption | exact ⟨cell_later ((Below.refl _ _).alloc (Nat.le_refl _) _) (cell_later hb2 (cell_later hb1 x0)), cell_later ((Below.refl _ _).alloc (Nat.le_refl _) _) (cell_later hb2 (cell_later hb1 x1)), cell_later ((Below.refl _ _).alloc (Nat.le_refl _) _) (cell_later hb2 (cell_later hb1 x2))⟩ | exact ⟨cell_later hb3 (cell_later ((Below.refl _ _).alloc (Nat.le_refl _) _) (cell_later hb2 (cell_later hb1 x0))), cell_later hb3 (cell_later ((Below.refl _ _).alloc (Nat.le_refl _) _) (cell_later hb2 (cell_later hb1 x1))), cell_later hb3 (cell_later ((Below.refl _ _).alloc (Nat.le_refl _) _) (cell_later hb2 (cell_later hb1 x2)))⟩)
    ((first
      | (go_at_call 36; have _t := tok; refine (HNum.out _ 1 k (by omega)).mono ?_; rintro e w1 ⟨v1, rfl, ho1, hb1⟩; have hq1 := hbd.trans (hb1.mono hbd.size); obtain ⟨A5, c5, rfl, _, _⟩ := own_form ho1; have hX1 := hXd.below hb1; clear _t tok)
      | (go_at_call 36; refine (HNum.out _ 8 ep he).mono ?_; rintro e w2 ⟨v2, rfl, ho2, hb2⟩; have hq2 := hq1.trans (hb2.mono hq1.size); obtain ⟨A6, c6, rfl, _, _⟩ := own_form ho2; have hX2 := hX1.below hb2)
      | (go_at_call 35; refine (HJ.out _ _ _ _ _ (Bss.new3 (by first | rfl | simp) (((own_bs ho1).2).below hb2) (own_bs ho2).2 hX2) (by omega) HLens.out).mono ?_; rintro e w3 ⟨v3, rfl, ho3, hb3⟩; have hq3 := (hq2.alloc hq2.size _).trans (hb3.mono (hq2.alloc hq2.size _).size))))
  all_goals
    go_wp2
    go_ret2
    refine ⟨v3, rfl, ?_, hq3⟩
    have hf := ho3.mono (B' := w.heap.size) (by have := hq2.size; simp; omega)
    have e3 : [numB (wid 1) k, numB (wid 8) ep, bs].flatten = nodeB k ep bs := by show _ = numB 1 k ++ (numB 8 ep ++ bs); rw [show wid 1 = 1 from rfl, show wid 8 = 8 from rfl]; simp
    rw [e3] at hf
    exact hf
end Go.Proofs.YtljdfhckllncoaaK

namespace Go.Proofs.YtljdfhckllncoaaK
open Go.RowKit
set_option linter.unusedSimpArgs false
set_option linter.unusedVariables false
theorem str_inj {a b : List UInt8} (h : str a = str b) : a = b := by
  have h1 : (str a).toList = (str b).toList := by rw [h]
  rwa [str_toList, str_toList] at h1
set_option maxRecDepth 10000 in
set_option maxHeartbeats 2000000 in
theorem same_any (k1 e1 k2 e2 : Int) (A1 : Option Addr) (n1 c1 : Nat) (b1 : List UInt8) (A2 : Option Addr) (n2 c2 : Nat) (b2 : List UInt8) (w : World) (hX1 : Bs w (.slice A1 n1 c1) b1) (hX2 : Bs w (.slice A2 n2 c2) b2) :
    Calls Try.prog 22 #[.agg #[.int .i64 k1, .int .u64 e1, .slice A1 n1 c1], .agg #[.int .i64 k2, .int .u64 e2, .slice A2 n2 c2]] w fun e w' => e = .returned (.bool (decide (k1 = k2 ∧ e1 = e2 ∧ b1 = b2))) ∧ Below w.heap.size w w' := by
  obtain ⟨W, hW⟩ : ∃ W, W = (w.alloc (.cells #[.int .i64 k1, .int .u64 e1, .slice A1 n1 c1] 45)).alloc (.cells #[.int .i64 k2, .int .u64 e2, .slice A2 n2 c2] 45) := ⟨_, rfl⟩
  have hb0 : Below w.heap.size w W := by rw [hW]; exact ((Below.refl _ _).alloc (Nat.le_refl _) _).alloc (by simp) _
  have hs1 := run_str (hX1.below hb0)
  have hs2 := run_str (hX2.below hb0)
  by_cases h1 : k1 = k2
  · by_cases h2 : e1 = e2
    · by_cases h3 : b1 = b2
      · rw [decide_eq_true (p := k1 = k2 ∧ e1 = e2 ∧ b1 = b2) ⟨h1, h2, h3⟩]
        subst h1 h2 h3
        rw [hW] at hs1 hs2
        go_enter Try.func22, Try.ntmps22
        go_wp2
        go_ret
        exact ⟨rfl, by rw [hW] at hb0; exact hb0⟩
      · rw [decide_eq_false (p := k1 = k2 ∧ e1 = e2 ∧ b1 = b2) (fun h => h3 h.2.2)]
        subst h1 h2
        have h4 : ¬ str b1 = str b2 := fun h => h3 (str_inj h)
        rw [hW] at hs1 hs2
        go_enter Try.func22, Try.ntmps22
        go_wp2
        go_ret
        refine ⟨?_, by rw [hW] at hb0; exact hb0⟩
        show Ending.returned (Value.bool _) = _
        have h5 : (b1 == b2) = false := by rw [beq_eq_false_iff_ne]; exact h3
        rw [h5]
    · rw [decide_eq_false (p := k1 = k2 ∧ e1 = e2 ∧ b1 = b2) (fun h => h2 h.2.1)]
      subst h1
      have h4 : (e1 == e2) = false := by simpa using h2
      clear hs1 hs2 h2
      go_enter Try.func22, Try.ntmps22
      go_wp2
      go_ret
      exact ⟨rfl, by rw [hW] at hb0; exact hb0⟩
  · rw [decide_eq_false (p := k1 = k2 ∧ e1 = e2 ∧ b1 = b2) (fun h => h1 h.1)]
    have h4 : (k1 == k2) = false := by simpa using h1
    clear hs1 hs2 h1
    go_enter Try.func22, Try.ntmps22
    go_wp2
    go_ret
    exact ⟨rfl, by rw [hW] at hb0; exact hb0⟩
end Go.Proofs.YtljdfhckllncoaaK

namespace Go.Proofs.YtljdfhckllncoaaK
open Go.RowKit
set_option linter.unusedSimpArgs false
set_option linter.unusedVariables false
theorem own_lit {w : World} {base b n : Nat} {e : TypeId} (cs : Array Value) (hb : b = w.heap.size) (h : base ≤ w.heap.size) (hn : cs.size = n) (hm : n ≤ maxLen) : (w.alloc (.cells cs e)).ownsRow base e 1 (.slice (some ⟨b, 0, none⟩) n n) n cs.toList := by
  subst hb
  exact ⟨by simp [hn], .inr ⟨w.heap.size, n, cs, rfl, h, heap_alloc_new w _, Nat.le_refl _, hm, by omega, by rw [Nat.mul_one]; exact (List.take_of_length_le (by rw [Array.length_toList, hn]; exact Nat.le_refl _))⟩⟩
theorem u8_wrap_nat (k : Nat) (h : k < 256) : encB (UInt8.ofNat k) = .int .u8 (k : Int) := by
  unfold encB
  rw [UInt8.toNat_ofNat_of_lt' h]
set_option maxRecDepth 10000 in
theorem rwrite_neg (k ep : Int) (A : Option Addr) (n c : Nat) (w : World) (h : k < 0 ∨ 256 ≤ k ∨ 224 < n) :
    Calls Try.prog 30 #[.agg #[.int .i64 k, .int .u64 ep, .slice A n c]] w fun e w' => ∃ v, e = .returned (.tuple #[v, .int .i64 1]) ∧ Bs w' v [] ∧ Below w.heap.size w w' := by
  by_cases h1 : k < 0
  · clear h
    go_enter Try.func30, Try.ntmps30
    go_wp2
    go_ret2
    exact ⟨_, rfl, Bs.new (by first | rfl | simp) rfl rfl (by omega), ((Below.refl _ _).alloc (Nat.le_refl _) _).alloc (by simp) _⟩
  by_cases h2 : 256 ≤ k
  · clear h
    go_enter Try.func30, Try.ntmps30
    go_wp2
    go_ret2
    exact ⟨_, rfl, Bs.new (by first | rfl | simp) rfl rfl (by omega), ((Below.refl _ _).alloc (Nat.le_refl _) _).alloc (by simp) _⟩
  have h3 : 224 < n := by omega
  clear h
  go_enter Try.func30, Try.ntmps30
  go_wp2
  go_ret2
  exact ⟨_, rfl, Bs.new (by first | rfl | simp) rfl rfl (by omega), ((Below.refl _ _).alloc (Nat.le_refl _) _).alloc (by simp) _⟩
set_option maxRecDepth 10000 in
set_option maxHeartbeats 2000000 in
theorem rwrite_ok (k ep : Nat) (A : Option Addr) (n c : Nat) (bs : List UInt8) (w : World) (hk : k < 256) (he : ep < 18446744073709551616) (hn : n ≤ 224) (hX : Bs w (.slice A n c) bs) :
    Calls Try.prog 30 #[.agg #[.int .i64 (k : Int), .int .u64 (ep : Int), .slice A n c]] w fun e w' => ∃ v, e = .returned (.tuple #[v, .int .i64 0]) ∧ Bs w' v (nodeB k ep bs) ∧ Below w.heap.size w w' := by
  have HNum := Lib.hid (fun W (N : Nat) h => refnum_any 8 N W h)
  rw [show wid 8 = 8 from rfl] at HNum
  have HL := Lib.hid hX.len
  have hk0 : (0 : Int) ≤ k := by omega
  have e1 : IntKind.u8.wrap (k : Int) = k := by rw [IntKind.wrap_u8]; omega
  have tok : True := trivial
  go_enter Try.func30, Try.ntmps30
  go_wp2
  obtain ⟨xb, hxb⟩ : ∃ xb, xb = w.heap.size := ⟨_, rfl⟩
  obtain ⟨W, hW⟩ : ∃ W, W = w.alloc (.cells #[.int .i64 (k : Int), .int .u64 (ep : Int), .slice A n c] 45) := ⟨_, rfl⟩
  have hb0 : Below w.heap.size w W := by rw [hW]; exact (Below.refl _ _).alloc (Nat.le_refl _) _
  have hrow : W.heap[xb]? = some (.cells #[.int .i64 (k : Int), .int .u64 (ep : Int), .slice A n c] 45 (0, 0)) := by rw [hW, hxb]; exact heap_alloc_new w _
  have x0 : W.cell? ⟨xb, 0, none⟩ = some (.int .i64 (k : Int)) := cell_of_row _ _ 0 _ _ _ hrow
  have x1 : W.cell? ⟨xb, 1, none⟩ = some (.int .u64 (ep : Int)) := cell_of_row _ _ 1 _ _ _ hrow
  have x2 : W.cell? ⟨xb, 2, none⟩ = some (.slice A n c) := cell_of_row _ _ 2 _ _ _ hrow
  rw [← hW, ← hxb]
  have hX0 := hX.below hb0
  clear hW hxb hrow
  have hbA0 := (Below.refl W.heap.size W).alloc (Nat.le_refl _) (.cells #[.int .u8 (k : Int)] 5)
  have hbA := hbA0.drew
  have hoA := World.ownsRow.drew (own_lit (w := W) (e := 5) (n := 1) #[.int .u8 (k : Int)] rfl (Nat.le_refl _) rfl (by decide))
  have HL8 := Lib.hid (by simp [numB_length] : ((numB 8 ep).map encB).length = 8 * 1)
  have HLn := Lib.hid hX.cells
  go_region_held3 (fun w' => w'.cell? ⟨xb, 0, none⟩ = some (.int .i64 (k : Int)) ∧ w'.cell? ⟨xb, 1, none⟩ = some (.int .u64 (ep : Int)) ∧ w'.cell? ⟨xb, 2, none⟩ = some (.slice A n c)) (first | exact ⟨cell_later hB1 x0, cell_later hB1 x1, cell_later hB1 x2⟩ | exact ⟨cell_later hB4 x0, cell_later hB4 x1, cell_later hB4 x2⟩ | exact ⟨cell_later hB3 x0, cell_later hB3 x1, cell_later hB3 x2⟩ | exact ⟨cell_later hB2 x0, cell_later hB2 x1, cell_later hB2 x2⟩ | exact ⟨cell_later hbA x0, cell_later hbA x1, cell_later hbA x2⟩ | exact ⟨cell_later hbA0 x0, cell_later hbA0 x1, cell_later hbA0 x2⟩ | exact ⟨x0, x1, x2⟩ | assumption)
    ((first
      | (go_at_call 33; refine (HNum.out ((W.alloc (.cells #[.int .u8 (k : Int)] 5)).drew) ep he).mono ?_; rintro e w2 ⟨v, rfl, ho2, hb2⟩; obtain ⟨A6, c6, rfl, _, _⟩ := own_form ho2; have hB2 := hbA.trans (hb2.mono hbA.size); have hoA2 := own_below hoA hb2)
      | (go_at_call 33; refine (HNum.out W.drew ep he).mono ?_; rintro e w2 ⟨v, rfl, ho2, hb2⟩; obtain ⟨A6, c6, rfl, _, _⟩ := own_form ho2; have hB1 := (Below.refl W.heap.size W).drew.trans (hb2.mono (Nat.le_refl _)); have hB2 := hB1.alloc hB1.size (.cells #[.int .u8 (k : Int)] 5); have hoB2 := own_lit (w := w2) (e := 5) (n := 1) #[.int .u8 (k : Int)] rfl hB1.size rfl (by decide); have hoC2 := ho2.alloc (.cells #[.int .u8 (k : Int)] 5))
      | (have _t := tok; refine step_append W.heap.size rfl _ _ 22 5 (.int .u8 0) 1 1 rfl Try.underlying22 info_u8 rfl (by decide) (by decide) (.slice (some ⟨W.heap.size, 0, none⟩) 1 1) 1 [.int .u8 (k : Int)] A6 8 c6 ((numB 8 ep).map encB) (by simp [Act.eval, Act.put]) (by simp [Act.eval, Act.put]) hoA2 (own_at ho2) HL8.out (encB_all _) hB2.size (by omega) ?_; intro v3 w3 ho3 hg3 ha3; have hB3 := below_grown hB2 hoA2 hg3 hB2.size; obtain ⟨A7, c7, rfl, _, _⟩ := own_form ho3; clear tok _t)
      | (have _t := tok; refine step_append W.heap.size rfl _ _ 22 5 (.int .u8 0) 1 1 rfl Try.underlying22 info_u8 rfl (by decide) (by decide) (.slice (some ⟨w2.heap.size, 0, none⟩) 1 1) 1 [.int .u8 (k : Int)] A6 8 c6 ((numB 8 ep).map encB) (by simp [Act.eval, Act.put]) (by simp [Act.eval, Act.put]) hoB2 (own_at hoC2) HL8.out (encB_all _) hB2.size (by omega) ?_; intro v3 w3 ho3 hg3 ha3; have hB3 := below_grown hB2 hoB2 hg3 hB2.size; obtain ⟨A7, c7, rfl, _, _⟩ := own_form ho3; clear tok _t)
      | (refine step_append W.heap.size rfl _ _ 22 5 (.int .u8 0) 1 1 rfl Try.underlying22 info_u8 rfl (by decide) (by decide) (.slice A7 (1 + 8) c7) (1 + 8) _ A n c (bs.map encB) (by simp [Act.eval, Act.put]) (by simp [Act.eval, Act.put]) ho3 (hX0.below hB3).at HLn.out (encB_all _) hB3.size (by omega) ?_; intro v4 w4 ho4 hg4 ha4; have hB4 := below_grown hB3 ho3 hg4 hB3.size; obtain ⟨A8, c8, rfl, _, _⟩ := own_form ho4)))
  all_goals
    go_wp2
    go_ret2
    refine ⟨_, rfl, ?_, hb0.trans (hB4.mono hb0.size)⟩
    have e3 : [Value.int .u8 (k : Int)] ++ (numB 8 ep).map encB ++ bs.map encB = (nodeB k ep bs).map encB := by
      unfold nodeB
      rw [List.map_append, List.map_append, List.append_assoc]
      congr 1
      show _ = [encB (UInt8.ofNat (k % 256))]
      rw [encB_ofNat]
      congr 2
      omega
    rw [e3] at ho4
    have h9 := own_bs ho4
    rw [show 1 + 8 + n = (nodeB k ep bs).length from h9.1]
    rw [h9.1] at h9
    exact h9.2
end Go.Proofs.YtljdfhckllncoaaK

namespace Go.Proofs.YtljdfhckllncoaaK
open Go.RowKit
set_option linter.unusedSimpArgs false
set_option linter.unusedVariables false
theorem rnum_in (b D : Nat) (bs : List UInt8) (bad : Bool) (s : Int) (k : Nat) (w : World) (hs : wid s = k) (hk : k ≤ bs.length) (h : Rdr w b D bs bad) (hl : bs.length ≤ 140737488355328) :
    Calls Try.prog 42 #[.pointer (some ⟨b, 0, none⟩), .int .i64 s] w fun e w' => e = .returned (.int .u64 (numV (bs.take k) : Int)) ∧ Rdr w' b D (bs.drop k) bad ∧ w.grownBy w' (some b) := by
  have h0 := rnum_any b D bs bad s w h hl
  have e1 : ¬ (bs.length : Int) < max ((k : Nat) : Int) 0 := by omega
  have e2 : (max ((k : Nat) : Int) 0).toNat = k := by omega
  rw [hs] at h0
  unfold rdTake rdLeft rdBad at h0
  rw [if_neg e1, if_neg e1, if_neg e1, e2] at h0
  exact h0
theorem rbytes_all (b D : Nat) (bs : List UInt8) (bad : Bool) (w : World) (h : Rdr w b D bs bad) (hl : bs.length ≤ 140737488355328) :
    Calls Try.prog 50 #[.pointer (some ⟨b, 0, none⟩), .int .i64 (bs.length : Int)] w fun e w' => ∃ v n, e = .returned v ∧ w'.ownsRow w.heap.size 5 1 v n (bs.map encB) ∧ w.grownBy w' (some b) := by
  have h0 := bytes_any b D bs bad (bs.length : Int) w h hl
  have e1 : ¬ (bs.length : Int) < max ((bs.length : Nat) : Int) 0 := by omega
  have e2 : (max ((bs.length : Nat) : Int) 0).toNat = bs.length := by omega
  unfold rdTake rdLeft rdBad at h0
  rw [if_neg e1, if_neg e1, if_neg e1, e2, List.take_length] at h0
  refine h0.mono ?_
  rintro e w' ⟨v, n, h1, h2, h3, h4⟩
  exact ⟨v, n, h1, h2, h4⟩
theorem own_mono {w : World} {B B' n size : Nat} {e : TypeId} {v : Value} {xs : List Value} (h : w.ownsRow B e size v n xs) (hB : B' ≤ B) : w.ownsRow B' e size v n xs := by
  refine ⟨h.1, ?_⟩
  rcases h.2 with h1 | ⟨g, cap, cur, h1, h2, h3⟩
  · exact .inl h1
  · exact .inr ⟨g, cap, cur, h1, Nat.le_trans hB h2, h3⟩
def nodeK (bs : List UInt8) : Nat := numV (bs.take 1)
def nodeE (bs : List UInt8) : Nat := numV ((bs.drop 1).take 8)
theorem node_row3 {w : World} {g : Nat} {a0 a1 a2 : Value} (h : w.heap[g]? = some (.cells #[a0, a1, a2] 45 (0, 0))) (b0 b1 b2 : Value) :
    (((w.setCell ⟨g, 0, none⟩ b0).setCell ⟨g, 1, none⟩ b1).setCell ⟨g, 2, none⟩ b2).heap[g]? = some (.cells #[b0, b1, b2] 45 (0, 0)) :=
  Go.Joins.block_setCell (Go.Joins.block_setCell (Go.Joins.block_setCell h b0) b1) b2
theorem node_load {w : World} {g : Nat} {b0 b1 b2 : Value} (h : w.heap[g]? = some (.cells #[b0, b1, b2] 45 (0, 0))) : (loadVar 45 ⟨g, 0, none⟩).run Try.prog w = .ok (.agg #[b0, b1, b2]) w :=
  run_loadVar_row w g 45 45 #[b0, b1, b2] (0, 0) _ h Try.underlying45 rfl (by kernel_rfl)
theorem node_below3 {B : Nat} {a w : World} (h : Below B a w) {g : Nat} (hg : B ≤ g) (b0 b1 b2 : Value) : Below B a (((w.setCell ⟨g, 0, none⟩ b0).setCell ⟨g, 1, none⟩ b1).setCell ⟨g, 2, none⟩ b2) :=
  ((h.setCell (p := ⟨g, 0, none⟩) hg _).setCell (p := ⟨g, 1, none⟩) hg _).setCell (p := ⟨g, 2, none⟩) hg _
theorem own_set3 {w : World} {B n size g : Nat} {e : TypeId} {v : Value} {xs : List Value} (h : w.ownsRow B e size v n xs) (hg : g < B) (b0 b1 b2 : Value) :
    (((w.setCell ⟨g, 0, none⟩ b0).setCell ⟨g, 1, none⟩ b1).setCell ⟨g, 2, none⟩ b2).ownsRow B e size v n xs := by
  have hne : ∀ k, v.ownBlock = some k → k ≠ g := fun k hk => by have := (h.lt k hk).1; omega
  have h1 : w.grownBy (((w.setCell ⟨g, 0, none⟩ b0).setCell ⟨g, 1, none⟩ b1).setCell ⟨g, 2, none⟩ b2) (some g) := grown_trans (grown_trans (grown_set w g 0 b0) (grown_set _ g 1 b1)) (grown_set _ g 2 b2)
  exact h.kept h1 (by
    cases hv : v.ownBlock with
    | none => simp
    | some k => simpa using hne k hv)
set_option maxRecDepth 10000 in
theorem read_bad (A : Option Addr) (n c : Nat) (w : World) (h : n < 9 ∨ 233 < n) :
    Calls Try.prog 31 #[.slice A n c] w fun e w' => e = .returned (.tuple #[.agg #[.int .i64 0, .int .u64 0, .slice none 0 0], .int .i64 11]) ∧ Below w.heap.size w w' := by
  have hb0 : Below w.heap.size w (w.alloc (.cells #[.int .i64 0, .int .u64 0, .slice none 0 0] 45)) := (Below.refl _ _).alloc (Nat.le_refl _) _
  have hld := node_load (heap_alloc_new w (.cells #[.int .i64 0, .int .u64 0, .slice none 0 0] 45))
  have hbb := hb0
  have HLD := Lib.hid hld
  clear hld
  by_cases h1 : n < 9
  · clear h
    go_enter Try.func31, Try.ntmps31
    go_wp2
    refine bodyPost_ret (v := .tuple #[.agg #[.int .i64 0, .int .u64 0, .slice none 0 0], .int .i64 11]) ?_ rfl ⟨rfl, hbb⟩
    rw [results_cell_tmp rfl]
    simp [asAddr, Result.andThen, HLD.out]
  have h2 : 233 < n := by omega
  clear h
  go_enter Try.func31, Try.ntmps31
  go_wp2
  refine bodyPost_ret (v := .tuple #[.agg #[.int .i64 0, .int .u64 0, .slice none 0 0], .int .i64 11]) ?_ rfl ⟨rfl, hbb⟩
  rw [results_cell_tmp rfl]
  simp [asAddr, Result.andThen, HLD.out]
set_option maxRecDepth 10000 in
set_option maxHeartbeats 2000000 in
theorem read_ok (A : Option Addr) (n c : Nat) (bs : List UInt8) (w : World) (hX : Bs w (.slice A n c) bs) (h9 : 9 ≤ n) (hn : n ≤ 233) :
    Calls Try.prog 31 #[.slice A n c] w fun e w' => ∃ v m, e = .returned (.tuple #[.agg #[.int .i64 (nodeK bs : Int), .int .u64 (nodeE bs : Int), v], .int .i64 0]) ∧ w'.ownsRow w.heap.size 5 1 v m ((bs.drop 9).map encB) ∧ Below w.heap.size w w' := by
  have HL := Lib.hid hX.len
  have hl := hX.len
  have HN := Lib.hid (fun W h => new_any A n c bs W h (by omega))
  have H1 := Lib.hid (fun b D W h => rnum_in b D bs false 1 1 W rfl (by omega) h (by omega))
  have H8 := Lib.hid (fun b D W h => rnum_in b D (bs.drop 1) false 8 8 W rfl (by rw [List.length_drop]; omega) h (by rw [List.length_drop]; omega))
  rw [List.drop_drop] at H8
  obtain ⟨Y, hY⟩ : ∃ Y, Y = bs.drop 9 := ⟨_, rfl⟩
  have hYl : Y.length ≤ 140737488355328 := by rw [hY, List.length_drop]; omega
  rw [show 1 + 8 = 9 from rfl, ← hY] at H8
  rw [← hY]
  have HLf := Lib.hid (fun b D W h => left_any b D Y false W h)
  have HB := Lib.hid (fun b D W h => rbytes_all b D Y false W h hYl)
  clear hY hYl
  have hk1 := numV_lt (bs.take 1)
  have e1 : IntKind.i64.wrap ((nodeK bs : Nat) : Int) = nodeK bs := by
    have h1 : (bs.take 1).length ≤ 1 := by rw [List.length_take]; omega
    have h2 : nodeK bs < 256 := Nat.lt_of_lt_of_le hk1 (by have := Nat.pow_le_pow_right (n := 256) (by decide) h1; simpa using this)
    rw [IntKind.wrap_i64]; omega
  rw [show numV (bs.take 1) = nodeK bs from rfl] at H1
  rw [show numV ((bs.drop 1).take 8) = nodeE bs from rfl] at H8
  obtain ⟨K, hK⟩ : ∃ K, K = nodeK bs := ⟨_, rfl⟩
  obtain ⟨E, hE⟩ : ∃ K, K = nodeE bs := ⟨_, rfl⟩
  rw [← hK] at H1 e1
  rw [← hE] at H8
  rw [← hK, ← hE]
  clear hK hE hk1 hl
  have tok : True := trivial
  obtain ⟨W0, hW0⟩ : ∃ W0, W0 = w.alloc (.cells #[.int .i64 0, .int .u64 0, .slice none 0 0] 45) := ⟨_, rfl⟩
  obtain ⟨xb, hxb⟩ : ∃ xb, xb = w.heap.size := ⟨_, rfl⟩
  have hb0 : Below w.heap.size w W0 := by rw [hW0]; exact (Below.refl _ _).alloc (Nat.le_refl _) _
  have hrow : W0.heap[xb]? = some (.cells #[.int .i64 0, .int .u64 0, .slice none 0 0] 45 (0, 0)) := by rw [hW0, hxb]; exact heap_alloc_new w _
  have HX := Lib.hid (hX.below hb0)
  have HG := Lib.hid (show w.heap.size ≤ xb by rw [hxb]; exact Nat.le_refl _)
  go_enter Try.func31, Try.ntmps31
  go_wp2_with fail
  rw [← hW0, ← hxb]
  clear hW0 hxb hX
  go_wp2_with (first
    | (go_at_call 41; refine (HN.out _ HX.out).mono ?_; rintro e w1 ⟨rb, D, rfl, hrb, _, _, hr1, hb1⟩)
    | (go_at_call 42; have _t := tok; refine (H1.out _ _ _ (by exact hr1)).mono ?_; rintro e w2 ⟨rfl, hr2, hg2⟩; have hb2 := below_row hb1 hg2 hb1.size hrb; clear _t tok)
    | (go_at_call 42; refine (H8.out _ _ _ (by exact hr2)).mono ?_; rintro e w3 ⟨rfl, hr3, hg3⟩; have hb3 := below_row hb2 hg3 hb2.size hrb)
    | (go_at_call 51; refine (HLf.out _ _ _ (by exact hr3)).mono ?_; rintro e w4 ⟨rfl, rfl⟩)
    | (go_at_call 50; refine (HB.out _ _ _ (by exact hr3)).mono ?_; rintro e w5 ⟨v, m, rfl, ho5, hg5⟩; have hb5 := below_row hb3 hg5 hb3.size hrb; obtain ⟨A6, c6, rfl, _, _⟩ := own_form ho5; have hrow5 := (hb5.block xb (Array.getElem?_eq_some_iff.1 hrow).1).trans hrow; have y0 := cell_of_row _ _ 0 _ _ _ hrow5; have y1 := cell_of_row _ _ 1 _ _ _ hrow5; have y2 := cell_of_row _ _ 2 _ _ _ hrow5; have z0 := frozen_of hrow5 0; have z1 := frozen_of hrow5 1; have z2 := frozen_of hrow5 2))
  have hlt : xb < w3.heap.size := Nat.lt_of_lt_of_le (Array.getElem?_eq_some_iff.1 hrow).1 hb3.size
  have hge : w.heap.size ≤ w3.heap.size := Nat.le_trans hb0.size hb3.size
  have hfin := own_mono (own_set3 ho5 hlt (.int .i64 (K : Int)) (.int .u64 (E : Int)) (.slice A6 m c6)) hge
  have hbf := node_below3 (hb0.trans (hb5.mono hb0.size)) HG.out (.int .i64 (K : Int)) (.int .u64 (E : Int)) (.slice A6 m c6)
  have HLD := Lib.hid (node_load (node_row3 hrow5 (.int .i64 (K : Int)) (.int .u64 (E : Int)) (.slice A6 m c6)))
  refine bodyPost_ret (v := .tuple #[.agg #[.int .i64 (K : Int), .int .u64 (E : Int), .slice A6 m c6], .int .i64 0]) ?_ rfl ⟨_, _, rfl, hfin, hbf⟩
  rw [results_cell_tmp rfl]
  simp [asAddr, Result.andThen, HLD.out]
end Go.Proofs.YtljdfhckllncoaaK

namespace Go.Proofs.YtljdfhckllncoaaK
open Go.RowKit
set_option linter.unusedSimpArgs false
set_option linter.unusedVariables false
theorem enum8 (b : Nat) (A : Option Addr) (n c : Nat) (bs : List UInt8) (w : World) (h : Eye w b A n c 1 false) (h9 : 9 ≤ n) (hn : n ≤ 140737488355328) (hX : Bs w (.slice A n c) bs) :
    Calls Try.prog 52 #[.pointer (some ⟨b, 0, none⟩), .int .i64 8] w fun e w' => e = .returned (.int .u64 (nodeE bs : Int)) ∧ w.grownBy w' (some b) := by
  have hl := hX.len
  have h0 := enum_any b A n c 1 bs false 8 w h (by omega) hn hX
  have e1 : ¬ ((bs.drop 1).length : Int) < max ((8 : Nat) : Int) 0 := by rw [List.length_drop]; omega
  rw [show wid 8 = 8 from rfl] at h0
  unfold rdTake rdLeft rdBad at h0
  rw [if_neg e1, if_neg e1, if_neg e1] at h0
  refine h0.mono ?_
  rintro e w' ⟨i', h1, _, _, _, h5⟩
  exact ⟨h1, h5⟩
theorem nodeK_head (bs : List UInt8) (h : 0 < bs.length) : nodeK bs = bs[0].toNat := by
  match bs, h with
  | x :: l, _ => simp [nodeK, numV]
set_option maxRecDepth 10000 in
theorem rread_bad (A : Option Addr) (n c : Nat) (w : World) (h : n < 9 ∨ 233 < n) :
    Calls Try.prog 32 #[.slice A n c] w fun e w' => e = .returned (.tuple #[.agg #[.int .i64 0, .int .u64 0, .slice none 0 0], .int .i64 11]) ∧ Below w.heap.size w w' := by
  have hb0 : Below w.heap.size w (w.alloc (.cells #[.int .i64 0, .int .u64 0, .slice none 0 0] 45)) := (Below.refl _ _).alloc (Nat.le_refl _) _
  have hld := node_load (heap_alloc_new w (.cells #[.int .i64 0, .int .u64 0, .slice none 0 0] 45))
  have HLD := Lib.hid hld
  clear hld
  by_cases h1 : n < 9
  · clear h
    go_enter Try.func32, Try.ntmps32
    go_wp2
    refine bodyPost_ret (v := .tuple #[.agg #[.int .i64 0, .int .u64 0, .slice none 0 0], .int .i64 11]) ?_ rfl ⟨rfl, hb0⟩
    rw [results_cell_tmp rfl]
    simp [asAddr, Result.andThen, HLD.out]
  have h2 : 233 < n := by omega
  clear h
  go_enter Try.func32, Try.ntmps32
  go_wp2
  refine bodyPost_ret (v := .tuple #[.agg #[.int .i64 0, .int .u64 0, .slice none 0 0], .int .i64 11]) ?_ rfl ⟨rfl, hb0⟩
  rw [results_cell_tmp rfl]
  simp [asAddr, Result.andThen, HLD.out]
set_option maxRecDepth 10000 in
set_option maxHeartbeats 4000000 in
theorem rread_ok (A : Option Addr) (n c : Nat) (bs : List UInt8) (w : World) (hX : Bs w (.slice A n c) bs) (h9 : 9 ≤ n) (hn : n ≤ 233) :
    Calls Try.prog 32 #[.slice A n c] w fun e w' => ∃ v m, e = .returned (.tuple #[.agg #[.int .i64 (nodeK bs : Int), .int .u64 (nodeE bs : Int), v], .int .i64 0]) ∧ w'.ownsRow w.heap.size 5 1 v m ((bs.drop 9).map encB) ∧ Below w.heap.size w w' := by
  have hl := hX.len
  have H8 := Lib.hid (fun b W h hX => enum8 b A n c bs W h h9 (by omega) hX)
  obtain ⟨a, rfl, hcell⟩ := hX.at.map 0 (by omega)
  have hKh := nodeK_head bs (by omega)
  obtain ⟨K, hK⟩ : ∃ K, K = nodeK bs := ⟨_, rfl⟩
  obtain ⟨E, hE⟩ : ∃ K, K = nodeE bs := ⟨_, rfl⟩
  have hK8 : K < 256 := by rw [hK, hKh]; exact bs[0].toNat_lt
  have hcell2 : w.cell? a = some (.int .u8 (K : Int)) := by
    rw [hK, hKh]
    have h0 : a.add 0 = a := by unfold Addr.add; simp
    rw [h0] at hcell
    exact hcell
  rw [← hE] at H8
  rw [← hK, ← hE]
  clear hK hE hKh
  have e1 : IntKind.i64.wrap (K : Int) = K := by rw [IntKind.wrap_i64]; omega
  have hn0 : (0 : Int) < n := by omega
  have hn1 : 0 < n := by omega
  have ha0 : a.add 0 = a := by unfold Addr.add; simp
  obtain ⟨A', hcut0, hcutB, _⟩ := cut_from w (some a) n c 9 bs hX h9
  have hcut : ∀ W : World, (Instr.slice 22 (.slice (some a) n c) (some (.int .i64 9)) none none).run Try.prog W = .ok (.slice A' (n - 9) (c - 9)) W := hcut0
  obtain ⟨W0, hW0⟩ : ∃ W0, W0 = w.alloc (.cells #[.int .i64 0, .int .u64 0, .slice none 0 0] 45) := ⟨_, rfl⟩
  obtain ⟨xb, hxb⟩ : ∃ xb, xb = w.heap.size := ⟨_, rfl⟩
  have hb0 : Below w.heap.size w W0 := by rw [hW0]; exact (Below.refl _ _).alloc (Nat.le_refl _) _
  have hrow : W0.heap[xb]? = some (.cells #[.int .i64 0, .int .u64 0, .slice none 0 0] 45 (0, 0)) := by rw [hW0, hxb]; exact heap_alloc_new w _
  have hsz0 : W0.heap.size = xb + 1 := by rw [hW0, hxb]; simp
  have HG := Lib.hid (show w.heap.size ≤ xb by rw [hxb]; exact Nat.le_refl _)
  have hc0 := cell_later hb0 hcell2
  have HY0 := Lib.hid (hcutB W0 (hX.below hb0))
  have HLn := Lib.hid (hcutB W0 (hX.below hb0)).cells
  have hl' : (bs.drop 9).length = n - 9 := by rw [List.length_drop, hl]
  obtain ⟨W, hW⟩ : ∃ W, W = W0.alloc (.cells #[.slice (some a) n c, .int .i64 1, .bool false] 98) := ⟨_, rfl⟩
  have hBW : Below W0.heap.size W0 W := by rw [hW]; exact (Below.refl _ _).alloc (Nat.le_refl _) _
  have hEW : Eye W (xb + 1) (some a) n c 1 false := by
    have h0 := heap_alloc_new W0 (.cells #[.slice (some a) n c, .int .i64 1, .bool false] 98)
    rw [hsz0, ← hW] at h0
    exact h0
  have hszW : W.heap.size = xb + 2 := by rw [hW]; simp [hsz0]
  have HB0 := Lib.hid (show W0.heap.size ≤ xb + 1 by omega)
  have HCB := Lib.hid hcutB
  clear hcell hcutB hl hcut0 hc0
  have hqW := hb0.trans (hBW.mono hb0.size)
  have hBA := (hBW.alloc hBW.size (.cells #[] 5)).drew
  have hqA := (hqW.alloc hqW.size (.cells #[] 5)).drew
  have hatA := World.ownsRow.drew (own_empty (w := W) (b := W.heap.size) (base := W0.heap.size) (e := 5) (size := 1) rfl hBW.size)
  have hEA : Eye ((W.alloc (.cells #[] 5)).drew) (xb + 1) (some a) n c 1 false := (((Below.refl W.heap.size W).alloc (Nat.le_refl _) (.cells #[] 5)).drew.block (xb + 1) (by omega)).trans hEW
  have hneA : (Value.slice (some ⟨W.heap.size, 0, none⟩) 0 0).ownBlock ≠ some (xb + 1) := by
    show some W.heap.size ≠ _
    rw [hszW]; simp
  have HSW := Lib.hid hszW
  clear hszW hsz0
  go_enter Try.func32, Try.ntmps32
  go_wp2
  rw [← hW0]
  simp only [← hxb]
  rw [← hW]
  clear hW hW0 hxb
  have tok : True := trivial
  go_region_held3 (fun w' => w'.cell? a = some (.int .u8 (K : Int))) (first | exact cell_later hqS hcell2 | exact cell_later (node_below3 hq4 HG.out _ _ _) hcell2 | exact cell_later hq4 hcell2 | exact cell_later hq3 hcell2 | exact cell_later hq2 hcell2 | exact cell_later hqA hcell2 | exact cell_later hqW hcell2 | exact cell_later hqW.drew hcell2 | assumption | exact cell_later (hqW.alloc hqW.size (.cells #[] 5)) hcell2)
    ((first
      | (go_at_call 52; refine (H8.out (xb + 1) ((W.alloc (.cells #[] 5)).drew) hEA (hX.below hqA)).mono ?_; rintro e w2 ⟨rfl, hg2⟩; have hB3 := below_row hBA hg2 hBA.size HB0.out; have hq3 := hb0.trans (hB3.mono hb0.size); have hat3 := hatA.kept hg2 (.inr hneA))
      | (go_at_call 52; refine (H8.out (xb + 1) W.drew hEW (hX.below hqW.drew)).mono ?_; rintro e w2 ⟨rfl, hg2⟩; have hB2 := below_row hBW.drew hg2 hBW.size HB0.out; have hq2 := hb0.trans (hB2.mono hb0.size); have hB3 := hB2.alloc hB2.size (.cells #[] 5); have hq3 := hb0.trans (hB3.mono hb0.size); have hat3 := own_empty (w := w2) (b := w2.heap.size) (base := W0.heap.size) (e := 5) (size := 1) rfl hB2.size)
      | (refine step_append W0.heap.size rfl _ _ 22 5 (.int .u8 0) 1 1 rfl Try.underlying22 info_u8 rfl (by decide) (by decide) _ 0 [] A' (n - 9) (c - 9) ((bs.drop 9).map encB) (by simp [Act.eval, Act.put]) (by simp [Act.eval, Act.put]) hat3 (HCB.out _ (hX.below hq3)).at HLn.out (encB_all _) hB3.size (by omega) ?_; intro v3 w3 ho3 hg3 ha3; have hB4 := below_grown hB3 hat3 hg3 hB3.size; have hq4 := hb0.trans (hB4.mono hb0.size); obtain ⟨A7, c7, rfl, _, _⟩ := own_form ho3; have hrow5 := (hB4.block xb (Array.getElem?_eq_some_iff.1 hrow).1).trans hrow; have y0 := cell_of_row _ _ 0 _ _ _ hrow5; have y1 := cell_of_row _ _ 1 _ _ _ hrow5; have y2 := cell_of_row _ _ 2 _ _ _ hrow5; have z0 := frozen_of hrow5 0; have z1 := frozen_of hrow5 1; have z2 := frozen_of hrow5 2)))
  all_goals
    rw [Nat.zero_add, List.nil_append] at ho3
    have hlt : xb < W0.heap.size := (Array.getElem?_eq_some_iff.1 hrow).1
    have hfin := own_mono (own_set3 ho3 hlt (.int .i64 (K : Int)) (.int .u64 (E : Int)) (.slice A7 (n - 9) c7)) hb0.size
    have hbf := node_below3 hq4 HG.out (.int .i64 (K : Int)) (.int .u64 (E : Int)) (.slice A7 (n - 9) c7)
    have HLD := Lib.hid (node_load (node_row3 hrow5 (.int .i64 (K : Int)) (.int .u64 (E : Int)) (.slice A7 (n - 9) c7)))
    go_wp2
    refine bodyPost_ret (v := .tuple #[.agg #[.int .i64 (K : Int), .int .u64 (E : Int), .slice A7 (n - 9) c7], .int .i64 0]) ?_ rfl ⟨_, _, rfl, hfin, hbf⟩
    rw [results_cell_tmp rfl]
    simp [asAddr, Result.andThen, HLD.out]
end Go.Proofs.YtljdfhckllncoaaK

namespace Go.Proofs.YtljdfhckllncoaaK
open Go.RowKit
set_option linter.unusedSimpArgs false
set_option linter.unusedVariables false
theorem nodeK_B (k ep : Nat) (bs : List UInt8) (hk : k < 256) : nodeK (nodeB k ep bs) = k := by
  unfold nodeK nodeB
  rw [List.take_append_of_le_length (by rw [numB_length]; exact Nat.le_refl _), List.take_of_length_le (by rw [numB_length]; exact Nat.le_refl _), numV_numB]
  omega
theorem nodeE_B (k ep : Nat) (bs : List UInt8) (he : ep < 18446744073709551616) : nodeE (nodeB k ep bs) = ep := by
  unfold nodeE nodeB
  rw [List.drop_append_of_le_length (by rw [numB_length]; exact Nat.le_refl _), List.drop_of_length_le (by rw [numB_length]; exact Nat.le_refl _), List.nil_append,
    List.take_append_of_le_length (by rw [numB_length]; exact Nat.le_refl _), List.take_of_length_le (by rw [numB_length]; exact Nat.le_refl _), numV_numB]
  omega
theorem nodeD_B (k ep : Nat) (bs : List UInt8) : (nodeB k ep bs).drop 9 = bs := by
  unfold nodeB
  rw [← List.append_assoc, List.drop_append_of_le_length (by rw [List.length_append, numB_length, numB_length]; exact Nat.le_refl _), List.drop_of_length_le (by rw [List.length_append, numB_length, numB_length]; exact Nat.le_refl _), List.nil_append]
theorem numB_numV : ∀ (l : List UInt8), numB l.length (numV l) = l
  | [] => rfl
  | x :: l => by
    have h := x.toNat_lt
    have e1 : (x.toNat + 256 * numV l) % 256 = x.toNat := by omega
    have e2 : (x.toNat + 256 * numV l) / 256 = numV l := by omega
    show numB (l.length + 1) (x.toNat + 256 * numV l) = _
    unfold numB
    rw [e1, e2, numB_numV l]
    simp
/-- Bytes that are read as a node are written as they were. -/
theorem nodeB_read (bs : List UInt8) (h : 9 ≤ bs.length) : nodeB (nodeK bs) (nodeE bs) (bs.drop 9) = bs := by
  unfold nodeB nodeK nodeE
  have h1 : (bs.take 1).length = 1 := by rw [List.length_take]; omega
  have h2 : ((bs.drop 1).take 8).length = 8 := by rw [List.length_take, List.length_drop]; omega
  have e1 := numB_numV (bs.take 1)
  have e2 := numB_numV ((bs.drop 1).take 8)
  rw [h1] at e1
  rw [h2] at e2
  rw [e1, e2]
  have e3 : bs.drop 9 = (bs.drop 1).drop 8 := by rw [List.drop_drop]
  rw [e3, List.take_append_drop, List.take_append_drop]
theorem nodeK_lt (bs : List UInt8) : nodeK bs < 256 := by
  have hk1 := numV_lt (bs.take 1)
  have h1 : (bs.take 1).length ≤ 1 := by rw [List.length_take]; omega
  exact Nat.lt_of_lt_of_le hk1 (by have := Nat.pow_le_pow_right (n := 256) (by decide) h1; simpa using this)
theorem nodeE_lt (bs : List UInt8) : nodeE bs < 18446744073709551616 := by
  have hk1 := numV_lt ((bs.drop 1).take 8)
  have h1 : ((bs.drop 1).take 8).length ≤ 8 := by rw [List.length_take]; omega
  exact Nat.lt_of_lt_of_le hk1 (by have := Nat.pow_le_pow_right (n := 256) (by decide) h1; simpa using this)
theorem box_below {w w1 : World} {b : Nat} {o : Obj} (h : w.heap[b]? = some o) (hb : Below w.heap.size w w1) : w1.heap[b]? = some o := (hb.block b (Array.getElem?_eq_some_iff.1 h).1).trans h
theorem box_cells {w : World} {b : Nat} {T : TypeId} {a0 a1 a2 : Value} (h : w.heap[b]? = some (.cells #[a0, a1, a2] T (0, 0))) :
    w.cell? ⟨b, 0, none⟩ = some a0 ∧ w.cell? ⟨b, 1, none⟩ = some a1 ∧ w.cell? ⟨b, 2, none⟩ = some a2 :=
  ⟨cell_of_row _ _ 0 _ _ _ h, cell_of_row _ _ 1 _ _ _ h, cell_of_row _ _ 2 _ _ _ h⟩
theorem own_set3' {w : World} {B n size g : Nat} {e : TypeId} {v : Value} {xs : List Value} (h : w.ownsRow B e size v n xs) (hne : v.ownBlock ≠ some g) (b0 b1 b2 : Value) :
    (((w.setCell ⟨g, 0, none⟩ b0).setCell ⟨g, 1, none⟩ b1).setCell ⟨g, 2, none⟩ b2).ownsRow B e size v n xs :=
  h.kept (grown_trans (grown_trans (grown_set w g 0 b0) (grown_set _ g 1 b1)) (grown_set _ g 2 b2)) (.inr hne)
end Go.Proofs.YtljdfhckllncoaaK

namespace Go.Proofs.YtljdfhckllncoaaK
open Go.RowKit
set_option linter.unusedSimpArgs false
set_option linter.unusedVariables false
theorem cmtC_list (ep : Int) (live : List UInt8) (sum : Int) : (cmtC ep live sum).toList = [Value.int .u64 ep] ++ (live.map encB ++ [Value.int .u32 sum]) := by unfold cmtC; rfl
theorem cmtC_length (ep : Int) (live : List UInt8) (sum : Int) (hl : live.length = 32) : (cmtC ep live sum).toList.length = 34 := by rw [cmtC_list]; simp [hl]
theorem cmt0 (ep : Int) (live : List UInt8) (sum : Int) : ((cmtC ep live sum).toList.drop 0).take 1 = [.int .u64 ep] := by rw [cmtC_list]; rfl
theorem cmt1 (ep : Int) (live : List UInt8) (sum : Int) (hl : live.length = 32) : ((cmtC ep live sum).toList.drop 1).take 32 = live.map encB := by
  rw [cmtC_list]
  show (live.map encB ++ [Value.int .u32 sum]).take 32 = _
  rw [List.take_append_of_le_length (by simp [hl]), List.take_of_length_le (by simp [hl])]
theorem cmt2 (ep : Int) (live : List UInt8) (sum : Int) (hl : live.length = 32) : ((cmtC ep live sum).toList.drop 33).take 1 = [.int .u32 sum] := by
  rw [cmtC_list]
  show ((live.map encB ++ [Value.int .u32 sum]).drop 32).take 1 = _
  rw [List.drop_append_of_le_length (by simp [hl]), List.drop_of_length_le (by simp [hl])]
  rfl
set_option maxRecDepth 100000 in
theorem keyLits_cmt (ep : Int) (live : List UInt8) (sum : Int) (hl : live.length = 32) (he : 0 ≤ ep ∧ ep < 18446744073709551616) (hs : 0 ≤ sum ∧ sum < 4294967296) :
    Try.prog.keyLits 3 50 (cmtC ep live sum).toList = some ([.int .u64 ep] ++ (live.map litB ++ [.int .u32 sum])) := by
  have c0 : Try.prog.cellsOf 43 = 1 := by kernel_rfl
  have c1 : Try.prog.cellsOf 47 = 32 := by kernel_rfl
  have c2 : Try.prog.cellsOf 48 = 1 := by kernel_rfl
  have c3 : Try.prog.cellsOf 50 = 34 := by kernel_rfl
  have k0 : Try.prog.keyLits 2 43 [.int .u64 ep] = some [.int .u64 ep] := by
    unfold Program.keyLits
    rw [Try.underlying43]
    have : (Lit.int .u64 ep).wf = true := by simp [Lit.wf, IntKind.min, IntKind.max, IntKind.signed, IntKind.bits]; omega
    simp [this]
  have k1 := keyLits_arr (P := Try.prog) (D := 0) Try.underlying47 Try.underlying5 (by kernel_rfl) c1 live hl
  have k2 : Try.prog.keyLits 2 48 [.int .u32 sum] = some [.int .u32 sum] := by
    unfold Program.keyLits
    rw [Try.underlying48]
    have : (Lit.int .u32 sum).wf = true := by simp [Lit.wf, IntKind.min, IntKind.max, IntKind.signed, IntKind.bits]; omega
    simp [this]
  unfold Program.keyLits
  rw [Try.underlying50]
  simp only []
  rw [if_pos ⟨by rw [cmtC_length _ _ _ hl, c3], by decide +kernel⟩]
  show Option.map List.flatten (List.mapM _ [_, _, _]) = _
  rw [List.mapM_cons, List.mapM_cons, List.mapM_cons, List.mapM_nil]
  simp only [c0, c1, c2, cmt0, cmt1 _ _ _ hl, cmt2 _ _ _ hl, k0, k1, k2]
  simp
set_option maxRecDepth 100000 in
theorem commit_eql (e1 : Int) (l1 : List UInt8) (s1 : Int) (e2 : Int) (l2 : List UInt8) (s2 : Int) (hl1 : l1.length = 32) (hl2 : l2.length = 32)
    (h1 : 0 ≤ e1 ∧ e1 < 18446744073709551616) (h2 : 0 ≤ s1 ∧ s1 < 4294967296) (h3 : 0 ≤ e2 ∧ e2 < 18446744073709551616) (h4 : 0 ≤ s2 ∧ s2 < 4294967296) (w : World) :
    (Op.equalIn 10000 50 (.agg (cmtC e1 l1 s1)) (.agg (cmtC e2 l2 s2))).run Try.prog w = .ok (decide (e1 = e2 ∧ l1 = l2 ∧ s1 = s2)) w := by
  have hf : ∀ (e : Int) (l : List UInt8) (s : Int), l.length = 32 → (Value.agg (cmtC e l s)).formed Try.prog 50 = true := by
    intro e l s hl
    unfold Value.formed
    rw [Try.underlying50]
    have := cmtC_length e l s hl
    rw [Array.length_toList] at this
    rw [show Try.prog.cellsOf 50 = 34 from by kernel_rfl]
    show ((cmtC e l s).size == 34) = true
    rw [this]
    rfl
  obtain ⟨r, h5, h6⟩ := run_equalIn_deep (P := Try.prog) 9997 3 50 (by kernel_rfl) w 3 3 _ _ _ _ (hf e1 l1 s1 hl1) (hf e2 l2 s2 hl2) (keyLits_cmt e1 l1 s1 hl1 h1 h2) (keyLits_cmt e2 l2 s2 hl2 h3 h4)
  rw [show (10000 : Nat) = 9997 + 3 from rfl, h5]
  congr 1
  have h7 : ([Lit.int .u64 e1] ++ (l1.map litB ++ [Lit.int .u32 s1]) = [Lit.int .u64 e2] ++ (l2.map litB ++ [Lit.int .u32 s2])) ↔ (e1 = e2 ∧ l1 = l2 ∧ s1 = s2) := by
    constructor
    · intro h
      have h8 := List.append_inj h rfl
      have h9 := List.append_inj h8.2 (by simp [hl1, hl2])
      refine ⟨?_, (litB_inj _ _).1 h9.1, ?_⟩
      · have := h8.1; simpa using this
      · have := h9.2; simpa using this
    · rintro ⟨rfl, rfl, rfl⟩; rfl
  rw [h7] at h6
  by_cases h : e1 = e2 ∧ l1 = l2 ∧ s1 = s2
  · rw [decide_eq_true h]; exact h6.2 h
  · rw [decide_eq_false h]
    cases r
    · rfl
    · exact absurd (h6.1 rfl) h
end Go.Proofs.YtljdfhckllncoaaK

namespace Go.Proofs.YtljdfhckllncoaaK
open Go.RowKit
set_option linter.unusedSimpArgs false
set_option linter.unusedVariables false
/-- A commit's bytes. -/
def cmtB (e : Nat) (live : List UInt8) (s : Nat) : List UInt8 := numB 8 e ++ (numB 4 s ++ live)
theorem cmtB_length (e : Nat) (live : List UInt8) (s : Nat) (hl : live.length = 32) : (cmtB e live s).length = 44 := by
  unfold cmtB
  rw [List.length_append, List.length_append, numB_length, numB_length, hl]
theorem cmtB_inj (e1 : Nat) (l1 : List UInt8) (s1 : Nat) (e2 : Nat) (l2 : List UInt8) (s2 : Nat) (h1 : e1 < 18446744073709551616) (h2 : s1 < 4294967296) (h3 : e2 < 18446744073709551616) (h4 : s2 < 4294967296) :
    cmtB e1 l1 s1 = cmtB e2 l2 s2 ↔ (e1 = e2 ∧ l1 = l2 ∧ s1 = s2) := by
  constructor
  · intro h
    unfold cmtB at h
    have a := List.append_inj h (by rw [numB_length, numB_length])
    have b := List.append_inj a.2 (by rw [numB_length, numB_length])
    refine ⟨?_, b.2, ?_⟩
    · have := congrArg numV a.1
      rw [numV_numB, numV_numB] at this
      omega
    · have := congrArg numV b.1
      rw [numV_numB, numV_numB] at this
      omega
  · rintro ⟨rfl, rfl, rfl⟩; rfl
theorem cmt_cells {w : World} {b : Nat} {T : TypeId} {fz : Nat × Nat} {ep : Int} {live : List UInt8} {sum : Int} (h : w.heap[b]? = some (.cells (cmtC ep live sum) T fz)) (hl : live.length = 32) :
    w.cell? ⟨b, 0, none⟩ = some (.int .u64 ep) ∧ w.cell? ⟨b, 33, none⟩ = some (.int .u32 sum) ∧ Bs w (.slice (some ⟨b, 1, none⟩) 32 32) live := by
  have hc : ∀ j, w.cell? ⟨b, j, none⟩ = (cmtC ep live sum).toList[j]? := fun j => by rw [cell_of_row _ _ j _ _ _ h]; simp
  refine ⟨by rw [hc, cmtC_list]; rfl, ?_, ?_⟩
  · rw [hc, cmtC_list, List.getElem?_append_right (by simp), List.getElem?_append_right (by simp [hl])]
    simp [hl]
  · refine ⟨some ⟨b, 1, none⟩, 32, by rw [hl], by omega, by omega, fun j u hu => ⟨_, rfl, ?_⟩⟩
    have hj : j < 32 := by
      rcases Nat.lt_or_ge j 32 with h1 | h1
      · exact h1
      · rw [List.getElem?_eq_none (by simp [hl]; exact h1)] at hu; cases hu
    rw [Addr.add_mid, hc, cmtC_list, List.getElem?_append_right (by simp), List.getElem?_append_left (by simp [hl]; omega)]
    rw [show 1 + j - [Value.int .u64 ep].length = j from by simp]
    exact hu
set_option maxRecDepth 10000 in
set_option maxHeartbeats 2000000 in
theorem wcommit_any (E : Nat) (live : List UInt8) (S : Nat) (w : World) (hl : live.length = 32) (he : E < 18446744073709551616) (hs : S < 4294967296) :
    Calls Try.prog 23 #[.agg (cmtC (E : Int) live (S : Int))] w fun e w' => ∃ v, e = .returned v ∧ Fresh w.heap.size w' v (cmtB E live S) ∧ Below w.heap.size w w' := by
  have HNum := Lib.hid (fun W (s : Int) (N : Nat) h => num_any s N W h)
  have HJ := Lib.hid (fun W A n c xss h h1 h2 => pjoin_any A n c xss W h h1 h2)
  have e1 : IntKind.u64.wrap (S : Int) = S := by rw [IntKind.wrap_u64]; omega
  have tok : True := trivial
  have hlens : Lib.lens [numB (wid 8) E, numB (wid 4) S, live] ≤ 140737488355328 := by rw [lens3, numB_length, numB_length, hl]; have := wid_le 8; have := wid_le 4; omega
  have HLens := Lib.hid hlens
  clear hlens
  obtain ⟨C, hC⟩ : ∃ C, C = cmtC (E : Int) live (S : Int) := ⟨_, rfl⟩
  obtain ⟨W, hW⟩ : ∃ W, W = w.alloc (.cells C 50) := ⟨_, rfl⟩
  obtain ⟨xb, hxb⟩ : ∃ xb, xb = w.heap.size := ⟨_, rfl⟩
  have hb0 : Below w.heap.size w W := by rw [hW]; exact (Below.refl _ _).alloc (Nat.le_refl _) _
  have hrow : W.heap[xb]? = some (.cells C 50 (0, 0)) := by rw [hW, hxb]; exact heap_alloc_new w _
  rw [hC] at hrow
  obtain ⟨x0, x2, x1⟩ := cmt_cells hrow hl
  rw [← hC]
  clear hC
  go_enter Try.func23, Try.ntmps23
  go_wp2
  rw [← hW, ← hxb]
  clear hW hxb hrow
  have hbd := hb0.drew
  have hXd := x1.below (Below.refl W.heap.size W).drew
  trace_state
  go_region_held3 (fun w' => w'.cell? ⟨xb, 0, none⟩ = some (.int .u64 (E : Int)) ∧ w'.cell? ⟨xb, 33, none⟩ = some (.int .u32 (S : Int))) (first | assumption | exact ⟨x0, x2⟩ | exact ⟨cell_later hb1 x0, cell_later hb1 x2⟩ | exact ⟨cell_later hb2 (cell_later hb1 x0), cell_later hb2 (cell_later hb1 x2)⟩ | exact ⟨cell_later ((Below.refl _ _).alloc (Nat.le_refl _) _) (cell_later hb2 (cell_later hb1 x0)), cell_later ((Below.refl _ _).alloc (Nat.le_refl _) _) (cell_later hb2 (cell_later hb1 x2))⟩ | exact ⟨cell_later hb3 (cell_later ((Below.refl _ _).alloc (Nat.le_refl _) _) (cell_later hb2 (cell_later hb1 x0))), cell_later hb3 (cell_later ((Below.refl _ _).alloc (Nat.le_refl _) _) (cell_later hb2 (cell_later hb1 x2)))⟩)
    ((first
      | (go_at_call 36; have _t := tok; refine (HNum.out _ 8 E he).mono ?_; rintro e w1 ⟨v1, rfl, ho1, hb1⟩; have hq1 := hbd.trans (hb1.mono hbd.size); obtain ⟨A5, c5, rfl, _, _⟩ := own_form ho1; have hX1 := hXd.below hb1; clear _t tok)
      | (go_at_call 36; refine (HNum.out _ 4 S (by omega)).mono ?_; rintro e w2 ⟨v2, rfl, ho2, hb2⟩; have hq2 := hq1.trans (hb2.mono hq1.size); obtain ⟨A6, c6, rfl, _, _⟩ := own_form ho2; have hX2 := hX1.below hb2)
      | (go_at_call 35; refine (HJ.out _ _ _ _ _ (Bss.new3 (by first | rfl | simp) (((own_bs ho1).2).below hb2) (own_bs ho2).2 hX2) (by omega) HLens.out).mono ?_; rintro e w3 ⟨v3, rfl, ho3, hb3⟩; have hq3 := (hq2.alloc hq2.size _).trans (hb3.mono (hq2.alloc hq2.size _).size))))
  all_goals
    go_wp2
    go_ret
    refine ⟨v3, rfl, ?_, hq3⟩
    have hf := ho3.mono (B' := w.heap.size) (by have := hq2.size; simp; omega)
    have e3 : [numB (wid 8) E, numB (wid 4) S, live].flatten = cmtB E live S := by show _ = numB 8 E ++ (numB 4 S ++ live); rw [show wid 8 = 8 from rfl, show wid 4 = 4 from rfl]; simp
    rw [e3] at hf
    exact hf
end Go.Proofs.YtljdfhckllncoaaK

namespace Go.Proofs.YtljdfhckllncoaaK
open Go.RowKit
set_option linter.unusedSimpArgs false
set_option linter.unusedVariables false
/-- A commit's cells, as a list. -/
def cmtL (e : Int) (live : List UInt8) (s : Int) : List Value := [Value.int .u64 e] ++ (live.map encB ++ [Value.int .u32 s])
def cmt0L : List Value := cmtL 0 (List.replicate 32 0) 0
theorem cmtL_length (e : Int) (live : List UInt8) (s : Int) (hl : live.length = 32) : (cmtL e live s).length = 34 := by unfold cmtL; simp [hl]
theorem cmtL_one (e : Int) (live : List UInt8) (s : Int) : ∀ v ∈ cmtL e live s, v.oneCell' = true := by
  intro v hv
  unfold cmtL at hv
  simp only [List.mem_append, List.mem_cons, List.not_mem_nil, or_false] at hv
  rcases hv with rfl | hv | rfl
  · rfl
  · exact encB_all _ v hv
  · rfl
theorem cmtL_arr (e : Int) (live : List UInt8) (s : Int) : (cmtL e live s).toArray = cmtC e live s := by
  apply Array.toList_inj.1
  rw [cmtC_list]
  rfl
theorem cmtL_set0 (e e2 : Int) (live : List UInt8) (s : Int) : (cmtL e live s).set 0 (.int .u64 e2) = cmtL e2 live s := rfl
theorem cmtL_set33 (e : Int) (live : List UInt8) (s s2 : Int) (hl : live.length = 32) : (cmtL e live s).set 33 (.int .u32 s2) = cmtL e live s2 := by
  unfold cmtL
  show Value.int .u64 e :: (live.map encB ++ [Value.int .u32 s]).set 32 _ = _
  rw [List.set_append_right _ _ (by simp [hl])]
  simp [hl]
theorem cmtL_spl (e : Int) (live l2 : List UInt8) (s : Int) (hl : live.length = 32) (h2 : l2.length = 32) : spl (cmtL e live s) 1 (l2.map encB) = cmtL e l2 s := by
  unfold spl cmtL
  show Value.int .u64 e :: _ = _
  simp [h2, hl]
def rcE (bs : List UInt8) : Nat := numV (bs.take 8)
def rcS (bs : List UInt8) : Nat := numV ((bs.drop 8).take 4)
theorem rc_zero (w : World) : (zeroValue 50).run Try.prog w = .ok (.agg cmt0L.toArray) w := by
  have h := (zero_of_info (P := Try.prog) (t := 50) (v := .agg cmt0L.toArray) (n := 34) (by kernel_rfl)).1
  exact h w
theorem rc_info : (Try.prog.info? 50).map (·.size) = some 34 := by kernel_rfl
set_option maxRecDepth 100000 in
set_option maxHeartbeats 4000000 in
theorem rcommit_bad (A : Option Addr) (n c : Nat) (w : World) (h : n ≠ 44) :
    Calls Try.prog 34 #[.slice A n c] w fun e w' => e = .returned (.tuple #[.agg cmt0L.toArray, .int .i64 11]) ∧ Below w.heap.size w w' := by
  have hz := rc_zero
  obtain ⟨Z, hZ⟩ : ∃ Z, Z = cmt0L := ⟨_, rfl⟩
  have hZl : Z.length = 34 := by rw [hZ]; exact cmtL_length _ _ _ (by decide)
  have h1Z : ∀ v ∈ Z, v.oneCell' = true := by rw [hZ]; exact cmtL_one _ _ _
  rw [← hZ] at hz ⊢
  have HI := Lib.hid (show (Try.prog.info? 50).map (·.size) = some Z.length by rw [hZl]; exact rc_info)
  have HIA := Lib.hid (show (Try.prog.info? 50).map (·.size) = some Z.toArray.size by rw [List.size_toArray, hZl]; exact rc_info)
  have H1A : Hid (Z.toArray.all (·.oneCell') = true) := Lib.hid (all_oneCell_toArray h1Z)
  have HZZ : Hid (Z.toArray.size = Z.length) := Lib.hid (by simp)
  clear hZ hZl h1Z
  have hn : ¬ (n : Int) = 44 := by omega
  clear h
  have hA0 : Arr (w.alloc (.cells Z.toArray 50)) w.heap.size Z := arr_newL w Z _
  have hB0 : Below w.heap.size w (w.alloc (.cells Z.toArray 50)) := (Below.refl _ _).alloc (Nat.le_refl _) _
  go_enter Try.func34, Try.ntmps34
  go_upto_region 1 with fail
  obtain ⟨W, hW⟩ : ∃ W, W = w.alloc (.cells Z.toArray 50) := ⟨_, rfl⟩
  obtain ⟨xb, hxb⟩ : ∃ xb, xb = w.heap.size := ⟨_, rfl⟩
  have hge : w.heap.size ≤ xb := by omega
  rw [← hW] at hA0 hB0
  rw [← hxb] at hA0
  rw [← hW]
  simp only [← hxb]
  clear hW hxb
  go_wp2_with (first
    | (refine wpList_load_mid rfl 50 _ rfl xb 0 rfl Z _ hA0.1 Try.underlying50 rfl HI.out ?_)
    | (refine wp_load_mid 50 _ rfl xb 0 rfl Z _ hA0.1 Try.underlying50 rfl HI.out ?_)
    | (refine wpList_store_mid rfl 50 _ _ rfl xb 0 Z.toArray rfl rfl (hA0.thereA HZZ.out) HIA.out H1A.out ?_))
  exact bodyPost_row2 rfl rfl rfl rfl (hA0.setA_same HZZ.out) Try.underlying50 rfl HIA.out ⟨by simp, below_setCells hge _ _ hB0⟩
set_option maxRecDepth 100000 in
set_option maxHeartbeats 8000000 in
theorem rcommit_ok (A : Option Addr) (n c : Nat) (bs : List UInt8) (w : World) (hX : Bs w (.slice A n c) bs) (h44 : n = 44) :
    Calls Try.prog 34 #[.slice A n c] w fun e w' => e = .returned (.tuple #[.agg (cmtL (rcE bs : Int) (bs.drop 12) (rcS bs : Int)).toArray, .int .i64 0]) ∧ Below w.heap.size w w' := by
  have hl := hX.len
  have hz := rc_zero
  have HN := Lib.hid (fun W h => new_any A n c bs W h (by omega))
  have H8 := Lib.hid (fun b D W h => rnum_in b D bs false 8 8 W rfl (by omega) h (by omega))
  have H4 := Lib.hid (fun b D W h => rnum_in b D (bs.drop 8) false 4 4 W rfl (by rw [List.length_drop]; omega) h (by rw [List.length_drop]; omega))
  rw [List.drop_drop] at H4
  obtain ⟨Y, hY⟩ : ∃ Y, Y = bs.drop 12 := ⟨_, rfl⟩
  have hYl : Y.length = 32 := by rw [hY, List.length_drop]; omega
  rw [show 8 + 4 = 12 from rfl, ← hY] at H4
  rw [← hY]
  have HLf := Lib.hid (fun b D W h => left_any b D Y false W h)
  have HB := Lib.hid (fun b D W h => rbytes_all b D Y false W h (by omega))
  rw [hYl] at HLf HB
  have hE := numV_lt (bs.take 8)
  have hS := numV_lt ((bs.drop 8).take 4)
  have hE9 : rcE bs < 18446744073709551616 := by
    have h1 : (bs.take 8).length ≤ 8 := by rw [List.length_take]; omega
    exact Nat.lt_of_lt_of_le hE (by have := Nat.pow_le_pow_right (n := 256) (by decide) h1; simpa using this)
  have hS9 : rcS bs < 4294967296 := by
    have h1 : ((bs.drop 8).take 4).length ≤ 4 := by rw [List.length_take]; omega
    exact Nat.lt_of_lt_of_le hS (by have := Nat.pow_le_pow_right (n := 256) (by decide) h1; simpa using this)
  have e1 : IntKind.u32.wrap ((rcS bs : Nat) : Int) = rcS bs := by rw [IntKind.wrap_u32]; omega
  rw [show numV (bs.take 8) = rcE bs from rfl] at H8
  rw [show numV ((bs.drop 8).take 4) = rcS bs from rfl] at H4
  obtain ⟨E, hEe⟩ : ∃ K, K = rcE bs := ⟨_, rfl⟩
  obtain ⟨S, hSe⟩ : ∃ K, K = rcS bs := ⟨_, rfl⟩
  rw [← hEe] at H8
  rw [← hSe] at H4 e1
  rw [← hEe, ← hSe]
  have s0 : cmt0L.set 0 (.int .u64 (E : Int)) = cmtL E (List.replicate 32 0) 0 := rfl
  have s1 : (cmtL (E : Int) (List.replicate 32 0) 0).set 33 (.int .u32 (S : Int)) = cmtL E (List.replicate 32 0) S := cmtL_set33 _ _ _ _ (by decide)
  have s2 : spl (cmtL (E : Int) (List.replicate 32 0) (S : Int)) 1 (Y.map encB) = cmtL E Y S := cmtL_spl _ _ _ _ (by decide) hYl
  obtain ⟨Z, hZ⟩ : ∃ Z, Z = cmt0L := ⟨_, rfl⟩
  obtain ⟨Z1, hZ1⟩ : ∃ Z, Z = cmtL (E : Int) (List.replicate 32 0) 0 := ⟨_, rfl⟩
  obtain ⟨Z2, hZ2⟩ : ∃ Z, Z = cmtL (E : Int) (List.replicate 32 0) (S : Int) := ⟨_, rfl⟩
  obtain ⟨Z3, hZ3⟩ : ∃ Z, Z = cmtL (E : Int) Y (S : Int) := ⟨_, rfl⟩
  rw [← hZ, ← hZ1] at s0
  rw [← hZ1, ← hZ2] at s1
  rw [← hZ2, ← hZ3] at s2
  rw [← hZ] at hz
  rw [← hZ3]
  have hZl : Z.length = 34 := by rw [hZ]; exact cmtL_length _ _ _ (by decide)
  have hZ1l : Z1.length = 34 := by rw [hZ1]; exact cmtL_length _ _ _ (by decide)
  have hZ2l : Z2.length = 34 := by rw [hZ2]; exact cmtL_length _ _ _ (by decide)
  have hZ3l : Z3.length = 34 := by rw [hZ3]; exact cmtL_length _ _ _ hYl
  have h1Z : ∀ v ∈ Z3, v.oneCell' = true := by rw [hZ3]; exact cmtL_one _ _ _
  have HI := Lib.hid (show (Try.prog.info? 50).map (·.size) = some Z3.length by rw [hZ3l]; exact rc_info)
  have HIA := Lib.hid (show (Try.prog.info? 50).map (·.size) = some Z3.toArray.size by rw [List.size_toArray, hZ3l]; exact rc_info)
  have H1A : Hid (Z3.toArray.all (·.oneCell') = true) := Lib.hid (all_oneCell_toArray h1Z)
  have HZZ : Hid (Z3.toArray.size = Z3.length) := Lib.hid (by simp)
  have hz0 : Z[0]? = some (.int .u64 0) := by rw [hZ]; rfl
  have hz33 : Z1[33]? = some (.int .u32 0) := by
    rw [hZ1]; unfold cmtL
    rw [List.getElem?_append_right (by simp), List.getElem?_append_right (by simp)]
    simp
  have HZ0 := Lib.hid hz0
  have HZ33 := Lib.hid hz33
  have S0 := Lib.hid s0
  have S1 := Lib.hid s1
  have S2 := Lib.hid s2
  have HZL := Lib.hid hZl
  have HZ1L := Lib.hid hZ1l
  have HZ2L := Lib.hid hZ2l
  have HYL := Lib.hid hYl
  have hA0 : Arr (w.alloc (.cells Z.toArray 50)) w.heap.size Z := arr_newL w Z _
  have hB0 : Below w.heap.size w (w.alloc (.cells Z.toArray 50)) := (Below.refl _ _).alloc (Nat.le_refl _) _
  have hE0 : (0 : Int) ≤ E := by omega
  have hS0 : (0 : Int) ≤ S := by omega
  have hS8 : (S : Int) < 4294967296 := by omega
  clear hz0 hz33 hEe hSe hE hS hE9 hS9 s0 s1 s2 hZ hZ1 hZ2 hZ3 hZl hZ1l hZ2l hZ3l h1Z hl hY hYl
  have hn : (n : Int) = 44 := by omega
  have H44 := Lib.hid h44
  subst h44
  clear hn
  go_enter Try.func34, Try.ntmps34
  go_upto_region 1 with fail
  obtain ⟨W, hW⟩ : ∃ W, W = w.alloc (.cells Z.toArray 50) := ⟨_, rfl⟩
  obtain ⟨xb, hxb⟩ : ∃ xb, xb = w.heap.size := ⟨_, rfl⟩
  have hge : w.heap.size ≤ xb := by omega
  rw [← hW] at hA0 hB0
  rw [← hxb] at hA0
  have HX := Lib.hid (hX.below hB0)
  rw [← hW]
  simp only [← hxb]
  have hlx := hA0.2.2
  clear hW hxb hX
  have HNE1 := Lib.hid (show ∀ rb, W.heap.size ≤ rb → xb ≠ rb from fun rb h => by omega)
  go_upto_region 4 with (go_at_call 41; refine (HN.out _ HX.out).mono ?_; rintro e w1 ⟨rb, D, rfl, hrb, hD1, hD2, hr1, hb1⟩)
  have hA1 := hA0.below hb1
  have hq1 := hB0.trans (hb1.mono hB0.size)
  have HR := Lib.hid (HNE1.out rb hrb)
  have HD := Lib.hid (HNE1.out D hD1)
  have hrw : w.heap.size ≤ rb := Nat.le_trans hB0.size hrb
  clear H44
  go_upto_region 5 with (go_at_call 42; refine (H8.out _ _ _ (by exact hr1)).mono ?_; rintro e w2 ⟨rfl, hr2, hg2⟩; have hA2 := hA1.grown hg2 (by intro h; injection h with h; exact HR.out h); have hq2 := below_row hq1 hg2 hq1.size hrw; have hc2 := hA2.at_ 0 _ HZ0.out; have hf2 := (hA2.2.1 0 (by rw [HZL.out]; decide)).2; rw [Nat.zero_add] at hf2)
  have hA3 := hA2.set_cell 0 (.int .u64 (E : Int))
  rw [S0.out] at hA3
  have hr3 := hr2.set (p := ⟨xb, 0, none⟩) HR.out HD.out (.int .u64 (E : Int))
  have hq3 := hq2.setCell (p := ⟨xb, 0, none⟩) hge (.int .u64 (E : Int))
  obtain ⟨W3, hW3⟩ : ∃ W3, W3 = w2.setCell ⟨xb, 0, none⟩ (.int .u64 (E : Int)) := ⟨_, rfl⟩
  rw [← hW3] at hA3 hr3 hq3 ⊢
  clear hW3 hc2 hf2 hA2 hr2 hq2 hg2 hA1 hr1 hq1
  go_upto_region 6 with (go_at_call 42; refine (H4.out _ _ _ (by exact hr3)).mono ?_; rintro e w4 ⟨rfl, hr4, hg4⟩; have hA4 := hA3.grown hg4 (by intro h; injection h with h; exact HR.out h); have hq4 := below_row hq3 hg4 hq3.size hrw; have hc4 := hA4.at_ 33 _ HZ33.out; have hf4 := (hA4.2.1 33 (by rw [HZ1L.out]; decide)).2; rw [Nat.zero_add] at hf4)
  have hA5 := hA4.set_cell 33 (.int .u32 (S : Int))
  rw [S1.out] at hA5
  have hr5 := hr4.set (p := ⟨xb, 33, none⟩) HR.out HD.out (.int .u32 (S : Int))
  have hq5 := hq4.setCell (p := ⟨xb, 33, none⟩) hge (.int .u32 (S : Int))
  obtain ⟨W5, hW5⟩ : ∃ W5, W5 = w4.setCell ⟨xb, 33, none⟩ (.int .u32 (S : Int)) := ⟨_, rfl⟩
  rw [← hW5] at hA5 hr5 hq5 ⊢
  clear hW5 hc4 hf4 hA4 hr4 hq4 hg4 hA3 hr3 hq3
  refine wp_region_any (by kernel_rfl) ?_
  rw [show ({ W5 with drawn := W5.drawn + 1 } : World) = W5.drew from rfl]
  refine wpAny_take (i := 0) (oi := _) (v := .pointer (some ⟨xb, 1, none⟩)) rfl (by kernel_rfl) (by kernel_rfl) (by kernel_rfl) (fun _ _ _ h => h) (Or.inl ⟨by rfl, fun w => by go_simp⟩) ?_
  simp only [List.getElem_toArray, List.getElem_cons_succ, List.getElem_cons_zero, Act.put, List.setIfInBounds_toArray, List.set_cons_zero, List.set_cons_succ]
  refine wpAny_take (i := 1) (oi := _) (v := .slice (some ⟨xb, 1, none⟩) 32 32) rfl (by kernel_rfl) (by kernel_rfl) (by kernel_rfl) (fun _ _ _ h => h) (Or.inl ⟨by rfl, fun w => by go_simp⟩) ?_
  simp only [List.getElem_toArray, List.getElem_cons_succ, List.getElem_cons_zero, Act.put, List.setIfInBounds_toArray, List.set_cons_zero, List.set_cons_succ]
  refine wpAny_take (i := 2) (oi := _) (v := .pointer (some ⟨rb, 0, none⟩)) rfl (by kernel_rfl) (by kernel_rfl) (by kernel_rfl) (fun _ _ _ h => h) (Or.inl ⟨by rfl, fun w => by go_simp⟩) ?_
  simp only [List.getElem_toArray, List.getElem_cons_succ, List.getElem_cons_zero, Act.put, List.setIfInBounds_toArray, List.set_cons_zero, List.set_cons_succ]
  refine wpAny_take (i := 3) (oi := _) (v := .pointer (some ⟨rb, 0, none⟩)) rfl (by kernel_rfl) (by kernel_rfl) (by kernel_rfl) (fun _ _ _ h => h) (Or.inl ⟨by rfl, fun w => by go_simp⟩) ?_
  simp only [List.getElem_toArray, List.getElem_cons_succ, List.getElem_cons_zero, Act.put, List.setIfInBounds_toArray, List.set_cons_zero, List.set_cons_succ]
  refine wpAny_one 4 _ (by kernel_rfl) (by simp only [List.getElem?_toArray, List.getElem?_cons_succ, List.getElem?_cons_zero]; rfl) (by rfl) ?_
  refine StepS.wp (K := fun v w' => v = .int .i64 32 ∧ w' = W5.drew) ?_ ?_
  · refine stepS_call rfl Try.func51 (by kernel_rfl) (by kernel_rfl) #[.pointer (some ⟨rb, 0, none⟩)] ?_ ?_
    · simp [evS]
    · refine (HLf.out rb D W5.drew (hr5.below (Below.refl _ _).drew)).mono ?_
      rintro e w6 ⟨rfl, rfl⟩
      exact ⟨_, rfl, rfl, rfl⟩
  rintro v6 w6 ⟨rfl, rfl⟩
  simp only [List.getElem_toArray, List.getElem_cons_succ, List.getElem_cons_zero, Act.put, List.setIfInBounds_toArray, List.set_cons_zero, List.set_cons_succ]
  refine wpAny_one 5 _ (by kernel_rfl) (by simp only [List.getElem?_toArray, List.getElem?_cons_succ, List.getElem?_cons_zero]; rfl) (by rfl) ?_
  refine StepS.wp (K := fun v w' => ∃ m, w'.ownsRow W5.heap.size 5 1 v m (Y.map encB) ∧ W5.drew.grownBy w' (some rb)) ?_ ?_
  · refine stepS_call rfl Try.func50 (by kernel_rfl) (by kernel_rfl) #[.pointer (some ⟨rb, 0, none⟩), .int .i64 32] ?_ ?_
    · simp [evS]
    · refine (HB.out rb D W5.drew (hr5.below (Below.refl _ _).drew)).mono ?_
      rintro e w6 ⟨v, m, rfl, h1, h2⟩
      exact ⟨_, rfl, m, h1, h2⟩
  rintro v7 w7 ⟨m, ho7, hg7⟩
  obtain ⟨hm7, hbs7⟩ := own_bs ho7
  obtain ⟨A7, c7, rfl, _, _⟩ := own_form ho7
  rw [HYL.out] at hm7
  subst hm7
  have hA7 := (hA5.drew).grown hg7 (by intro h; injection h with h; exact HR.out h)
  have hq7 := below_row hq5.drew hg7 hq5.size hrw
  have hA8 := hA7.splice (vs := (Y.map encB).take (Nat.min 32 32)) 1 (by rw [HZ2L.out]; simp [HYL.out])
  have hq8 := below_setCells hge ((Y.map encB).take (Nat.min 32 32)) 1 hq7
  rw [show (Y.map encB).take (Nat.min 32 32) = Y.map encB from List.take_of_length_le (by simp [HYL.out])] at hA8 hq8
  rw [S2.out] at hA8
  simp only [List.getElem_toArray, List.getElem_cons_succ, List.getElem_cons_zero, Act.put, List.setIfInBounds_toArray, List.set_cons_zero, List.set_cons_succ]
  refine wpAny_one 6 _ (by kernel_rfl) (by simp only [List.getElem?_toArray, List.getElem?_cons_succ, List.getElem?_cons_zero]; rfl) (by rfl) ?_
  refine wp_copy (ops := #[]) (Operand.tmp 19) (Operand.tmp 23) 22 22 ?_ 5 Try.underlying22 (by kernel_rfl) xb 1 32 32 A7 32 c7 (Y.map encB) ?_ ?_ (by simp [HYL.out]) hbs7.at hA7 ?_ (encB_all _) ?_
  · rfl
  · simp [Act.eval]
  · simp [Act.eval]
  · rw [HZ2L.out]; decide
  rw [show (Y.map encB).take (Nat.min 32 32) = Y.map encB from List.take_of_length_le (by simp [HYL.out])]
  simp only [List.getElem_toArray, List.getElem_cons_succ, List.getElem_cons_zero, Act.put, List.setIfInBounds_toArray, List.set_cons_zero, List.set_cons_succ]
  rw [show Nat.min 32 32 = 32 from rfl, show goInt ((32 : Nat) : Int) = .int .i64 32 from rfl]
  clear e1
  refine wpAny_end (by kernel_rfl) ?_
  obtain ⟨W8, hW8⟩ : ∃ W8, W8 = w7.setCells xb 1 (Y.map encB) := ⟨_, rfl⟩
  rw [← hW8] at hA8 hq8 ⊢
  clear hW8 hA7 hq7 hg7 hbs7 ho7 hA5 hr5 hq5
  go_wp2_with (first
    | (refine wpList_load_mid rfl 50 _ rfl xb 0 rfl Z3 _ hA8.1 Try.underlying50 rfl HI.out ?_)
    | (refine wp_load_mid 50 _ rfl xb 0 rfl Z3 _ hA8.1 Try.underlying50 rfl HI.out ?_)
    | (refine wpList_store_mid rfl 50 _ _ rfl xb 0 Z3.toArray rfl rfl (hA8.thereA HZZ.out) HIA.out H1A.out ?_))
  exact bodyPost_row2 rfl rfl rfl rfl (hA8.setA_same HZZ.out) Try.underlying50 rfl HIA.out ⟨by simp, below_setCells hge _ _ hq8⟩
end Go.Proofs.YtljdfhckllncoaaK

namespace Go.Proofs.YtljdfhckllncoaaK
open Go.RowKit
set_option linter.unusedSimpArgs false
set_option linter.unusedVariables false
set_option maxRecDepth 10000 in
theorem node_speaks (w : World) : Calls Try.prog 20 #[] w fun e w' => e = .returned (.bool true) ∧ Below w.heap.size w w' := by
  have HW := Lib.hid (fun W A n c h hn => write_ok 7 258 A n c [120] W (by decide) (by decide) hn h)
  have hB := Bs.new (w := w) (bs := [120]) (cs := #[.int .u8 120]) (n := 1) (b := w.heap.size) (T := 5) (fz := (1, 2)) rfl rfl rfl (by decide)
  have hb0 := (Below.refl w.heap.size w).alloc (Nat.le_refl _) (.cells #[.int .u8 120] 5 (1, 2))
  have hcv := Lib.run_convert_bytes_const (P := Try.prog) w 22 5 #[.int .u8 120] 1 1 Try.underlying22 Try.underlying5
  go_enter Try.func20, Try.ntmps20
  go_wp2_with (go_at_call 21; refine (HW.out _ _ _ _ hB (by decide)).mono ?_; rintro e w2 ⟨v, rfl, hf, hb2⟩; have hb3 := hb0.trans (hb2.mono hb0.size); obtain ⟨A6, c6, rfl, _, _, _⟩ := id hf.1; have hs := run_str hf.1)
  go_ret
  exact ⟨by rfl, hb3⟩
set_option maxRecDepth 10000 in
set_option maxHeartbeats 4000000 in
theorem nodeWrites_walk (k ep : Int) (A : Option Addr) (n c : Nat) (bs : List UInt8) (w : World) (hX : Bs w (.slice A n c) bs) (hep : 0 ≤ ep ∧ ep < 18446744073709551616) :
    Calls Try.prog 10 #[.agg #[.int .i64 k, .int .u64 ep, .slice A n c]] w fun e w' => e = .returned (.bool true) ∧ Below w.heap.size w w' := by
  obtain ⟨W, hW⟩ : ∃ W, W = w.alloc (.cells #[.int .i64 k, .int .u64 ep, .slice A n c] 45) := ⟨_, rfl⟩
  obtain ⟨xb, hxb⟩ : ∃ xb, xb = w.heap.size := ⟨_, rfl⟩
  have hb0 : Below w.heap.size w W := by rw [hW]; exact (Below.refl _ _).alloc (Nat.le_refl _) _
  have hrow : W.heap[xb]? = some (.cells #[.int .i64 k, .int .u64 ep, .slice A n c] 45 (0, 0)) := by rw [hW, hxb]; exact heap_alloc_new w _
  by_cases h500 : 500 < n
  · clear hX
    have hsp := Lib.hid (node_speaks W)
    have x2 : W.cell? ⟨xb, 2, none⟩ = some (.slice A n c) := cell_of_row _ _ 2 _ _ _ hrow
    go_enter Try.func10, Try.ntmps10
    go_wp2_with fail
    rw [← hW, ← hxb]
    clear hW hxb
    go_wp2_with (go_at_call 20; refine hsp.out.mono ?_; rintro e w1 ⟨rfl, hb1⟩; have x2' := cell_later hb1 x2; have hb2 := hb0.trans (hb1.mono hb0.size))
    go_ret
    exact ⟨rfl, hb2⟩
  have hX0 := hX.below hb0
  have HLn := Lib.hid hX.cells
  have HN := Lib.hid hX.len
  have hsp := Lib.hid (node_speaks W)
  go_enter Try.func10, Try.ntmps10
  go_wp2_with fail
  rw [← hW, ← hxb]
  have x0 : W.cell? ⟨xb, 0, none⟩ = some (.int .i64 k) := cell_of_row _ _ 0 _ _ _ hrow
  have x1 : W.cell? ⟨xb, 1, none⟩ = some (.int .u64 ep) := cell_of_row _ _ 1 _ _ _ hrow
  have x2 : W.cell? ⟨xb, 2, none⟩ = some (.slice A n c) := cell_of_row _ _ 2 _ _ _ hrow
  have HRW := Lib.hid hrow
  clear hW hxb hrow
  go_wp2_with (go_at_call 20; refine hsp.out.mono ?_; rintro e w1 ⟨rfl, hb1⟩; have y0 := cell_later hb1 x0; have y1 := cell_later hb1 x1; have y2 := cell_later hb1 x2)
  have hq1 := hb1.size
  have hB1 := (hb1.alloc hb1.size (.cells #[] 5)).drew
  have hat1 := World.ownsRow.drew (own_empty (w := w1) (b := w1.heap.size) (base := W.heap.size) (e := 5) (size := 1) rfl hb1.size)
  have hB2 := ((hb1.alloc hb1.size (.cells #[] 5)).alloc (by simp; omega) (.cells #[.int .i64 0, .int .u64 0, .slice none 0 0] 45)).drew
  have hat2 := World.ownsRow.drew ((own_empty (w := w1) (b := w1.heap.size) (base := W.heap.size) (e := 5) (size := 1) rfl hb1.size).alloc (.cells #[.int .i64 0, .int .u64 0, .slice none 0 0] 45))
  have hi2 : (((w1.alloc (.cells #[] 5)).alloc (.cells #[.int .i64 0, .int .u64 0, .slice none 0 0] 45)).drew).heap[w1.heap.size + 1]? = some (.cells #[.int .i64 0, .int .u64 0, .slice none 0 0] 45) := by
    have := heap_alloc_new (w1.alloc (.cells #[] 5)) (.cells #[.int .i64 0, .int .u64 0, .slice none 0 0] 45)
    rw [show (w1.alloc (.cells #[] 5)).heap.size = w1.heap.size + 1 from by simp] at this
    exact this
  have hB6 := (hb1.alloc hb1.size (.cells #[.int .i64 0, .int .u64 0, .slice none 0 0] 45)).drew
  have hB5 := ((hb1.alloc hb1.size (.cells #[.int .i64 0, .int .u64 0, .slice none 0 0] 45)).alloc (by simp; omega) (.cells #[] 5)).drew
  have hat5 := World.ownsRow.drew (own_empty (w := w1.alloc (.cells #[.int .i64 0, .int .u64 0, .slice none 0 0] 45)) (b := w1.heap.size + 1) (base := W.heap.size) (e := 5) (size := 1) (by simp) (by simp; omega))
  have hi5 : (((w1.alloc (.cells #[.int .i64 0, .int .u64 0, .slice none 0 0] 45)).alloc (.cells #[] 5)).drew).heap[w1.heap.size]? = some (.cells #[.int .i64 0, .int .u64 0, .slice none 0 0] 45) :=
    (((Below.refl _ (w1.alloc (.cells #[.int .i64 0, .int .u64 0, .slice none 0 0] 45))).alloc (Nat.le_refl _) (.cells #[] 5)).block w1.heap.size (by simp)).trans (heap_alloc_new w1 (.cells #[.int .i64 0, .int .u64 0, .slice none 0 0] 45))
  go_region_held3 (fun w' => w'.cell? ⟨xb, 0, none⟩ = some (.int .i64 k) ∧ w'.cell? ⟨xb, 1, none⟩ = some (.int .u64 ep) ∧ w'.cell? ⟨xb, 2, none⟩ = some (.slice A n c)) (first | assumption | exact ⟨y0, y1, y2⟩ | exact ⟨cell_later hB1 x0, cell_later hB1 x1, cell_later hB1 x2⟩ | exact ⟨cell_later hB6 x0, cell_later hB6 x1, cell_later hB6 x2⟩ | exact ⟨cell_later hB2 x0, cell_later hB2 x1, cell_later hB2 x2⟩ | exact ⟨cell_later hB5 x0, cell_later hB5 x1, cell_later hB5 x2⟩ | exact ⟨cell_later hB3 x0, cell_later hB3 x1, cell_later hB3 x2⟩ | exact ⟨cell_later (hB3.alloc hB3.size (.cells #[.int .i64 0, .int .u64 0, .slice none 0 0] 45)) x0, cell_later (hB3.alloc hB3.size (.cells #[.int .i64 0, .int .u64 0, .slice none 0 0] 45)) x1, cell_later (hB3.alloc hB3.size (.cells #[.int .i64 0, .int .u64 0, .slice none 0 0] 45)) x2⟩ | exact ⟨cell_later (node_below3 hB3 hgib _ _ _) x0, cell_later (node_below3 hB3 hgib _ _ _) x1, cell_later (node_below3 hB3 hgib _ _ _) x2⟩ | exact ⟨cell_later (hB3.alloc hB3.size _) x0, cell_later (hB3.alloc hB3.size _) x1, cell_later (hB3.alloc hB3.size _) x2⟩)
    ((first
      | (refine step_append W.heap.size rfl _ _ 22 5 (.int .u8 0) 1 1 rfl Try.underlying22 info_u8 rfl (by decide) (by decide) (.slice (some ⟨w1.heap.size, 0, none⟩) 0 0) 0 [] A n c (bs.map encB) (by simp [Act.eval, Act.put]) (by simp [Act.eval, Act.put]) hat1 (hX0.below hB1).at HLn.out (encB_all _) hB1.size (by omega) ?_; intro v3 w3 ho3 hg3 ha3; have hB3 := below_grown hB1 hat1 hg3 hB1.size; obtain ⟨A7, c7, rfl, _, _⟩ := own_form ho3)
      | (refine step_append W.heap.size rfl _ _ 22 5 (.int .u8 0) 1 1 rfl Try.underlying22 info_u8 rfl (by decide) (by decide) (.slice (some ⟨w1.heap.size, 0, none⟩) 0 0) 0 [] A n c (bs.map encB) (by simp [Act.eval, Act.put]) (by simp [Act.eval, Act.put]) hat2 (hX0.below hB2).at HLn.out (encB_all _) hB2.size (by omega) ?_; intro v3 w3 ho3 hg3 ha3; have hB3 := below_grown hB2 hat2 hg3 hB2.size; obtain ⟨A7, c7, rfl, _, _⟩ := own_form ho3; have hi3 := (hg3.block (w1.heap.size + 1) (by simp) (by show some _ ≠ some _; simp)).trans hi2; have t0 := cell_of_row _ _ 0 _ _ _ hi3; have t1 := cell_of_row _ _ 1 _ _ _ hi3; have t2 := cell_of_row _ _ 2 _ _ _ hi3; have z0 := frozen_of hi3 0; have z1 := frozen_of hi3 1; have z2 := frozen_of hi3 2; have hgib : W.heap.size ≤ w1.heap.size + 1 := (by omega))
      | (refine step_append W.heap.size rfl _ _ 22 5 (.int .u8 0) 1 1 rfl Try.underlying22 info_u8 rfl (by decide) (by decide) (.slice (some ⟨w1.heap.size + 1, 0, none⟩) 0 0) 0 [] A n c (bs.map encB) (by simp [Act.eval, Act.put]) (by simp [Act.eval, Act.put]) hat5 (hX0.below hB5).at HLn.out (encB_all _) hB5.size (by omega) ?_; intro v3 w3 ho3 hg3 ha3; have hB3 := below_grown hB5 hat5 hg3 hB5.size; obtain ⟨A7, c7, rfl, _, _⟩ := own_form ho3; have hi3 := (hg3.block w1.heap.size (by simp; omega) (by show some _ ≠ some _; simp)).trans hi5; have t0 := cell_of_row _ _ 0 _ _ _ hi3; have t1 := cell_of_row _ _ 1 _ _ _ hi3; have t2 := cell_of_row _ _ 2 _ _ _ hi3; have z0 := frozen_of hi3 0; have z1 := frozen_of hi3 1; have z2 := frozen_of hi3 2; have hgib : W.heap.size ≤ w1.heap.size := (by omega))))
  · obtain ⟨Wf, hWf⟩ : ∃ Wf, Wf = w3.alloc (.cells #[.int .i64 k, .int .u64 ep, .slice A7 n c7] 45) := ⟨_, rfl⟩
    obtain ⟨ib, hib⟩ : ∃ ib, ib = w3.heap.size := ⟨_, rfl⟩
    rw [Nat.zero_add, List.nil_append] at ho3
    have hBf : Below W.heap.size W Wf := by rw [hWf]; exact hB3.alloc hB3.size _
    have HI : Hid (Wf.heap[ib]? = some (.cells #[.int .i64 k, .int .u64 ep, .slice A7 n c7] 45 (0, 0))) := Lib.hid (by rw [hWf, hib]; exact heap_alloc_new w3 _)
    have hIb : Bs Wf (.slice A7 n c7) bs := by rw [hWf]; exact (own_bs ho3).2.alloc _
    rw [← hWf, ← hib]
    clear hWf hib hB3 ho3 hg3 ha3
    have hI := HI.out
    have hXf := hX0.below hBf
    have hxf := box_below HRW.out hBf
    have HB0 := Lib.hid hb0
    clear hB1 hB2 hB5 hB6 hat1 hat2 hat5 hi2 hi5 hX hX0 x0 x1 x2 y0 y1 y2 hb1 hq1 hb0 HRW
    obtain ⟨p0, p1, p2⟩ := box_cells hI
    obtain ⟨q0, q1, q2⟩ := box_cells hxf
    by_cases hgood : 0 ≤ k ∧ k < 256 ∧ n ≤ 224
    · obtain ⟨hg0, hg1, hg2⟩ := hgood
      obtain ⟨K, rfl⟩ : ∃ K : Nat, k = (K : Int) := ⟨k.toNat, by omega⟩
      obtain ⟨P, rfl⟩ : ∃ P : Nat, ep = (P : Int) := ⟨ep.toNat, by omega⟩
      have hK8 : K < 256 := by omega
      have hP64 : P < 18446744073709551616 := by omega
      have HW := Lib.hid (fun W h => write_ok K P A7 n c7 bs W hK8 hP64 hg2 h)
      have HR := Lib.hid (fun W h => rwrite_ok K P A n c bs W hK8 hP64 hg2 h)
      have HS := Lib.hid (fun W h1 h2 => same_any (K : Int) (P : Int) (K : Int) (P : Int) A7 n c7 bs A n c bs W h1 h2)
      rw [decide_eq_true (p := (K : Int) = K ∧ (P : Int) = P ∧ bs = bs) ⟨rfl, rfl, rfl⟩] at HS
      have HS2 := Lib.hid (fun W A2 n2 c2 h1 h2 => same_any (K : Int) (P : Int) (K : Int) (P : Int) A2 n2 c2 bs A n c bs W h1 h2)
      rw [decide_eq_true (p := (K : Int) = K ∧ (P : Int) = P ∧ bs = bs) ⟨rfl, rfl, rfl⟩] at HS2
      obtain ⟨BB, hBB⟩ : ∃ BB, BB = nodeB K P bs := ⟨_, rfl⟩
      have hBl : BB.length = 9 + n := by rw [hBB, nodeB_length, ← HN.out]
      have HD := Lib.hid (fun W A2 n2 c2 h h9 hn => read_ok A2 n2 c2 BB W h h9 hn)
      have hk := nodeK_B K P bs hK8
      have he := nodeE_B K P bs hP64
      have hd := nodeD_B K P bs
      rw [← hBB] at hk he hd HW HR
      rw [hk, he, hd] at HD
      have HBl := Lib.hid hBl
      clear hk he hd hBB hBl
      have tok : True := trivial
      go_wp2_with (first
        | (go_at_call 21; refine (HW.out _ (by exact hIb)).mono ?_; rintro e w4 ⟨v4, rfl, hf4, hb4⟩; obtain ⟨A4, c4, rfl, _, _, _⟩ := id hf4.1; have hB4 := hBf.trans (hb4.mono hBf.size); have hI4 := box_below hI hb4; have hx4 := box_below hxf hb4; obtain ⟨p0, p1, p2⟩ := box_cells hI4; obtain ⟨q0, q1, q2⟩ := box_cells hx4; have hf4 := hf4.1; have hX4 := hXf.below hb4; have hIb4 := hIb.below hb4)
        | (go_at_call 30; refine (HR.out _ (by exact hX4)).mono ?_; rintro e w5 ⟨v5, rfl, hf5, hb5⟩; obtain ⟨A5, c5, rfl, _, _, _⟩ := id hf5; have hB5 := hB4.trans (hb5.mono hB4.size); have hI5 := box_below hI4 hb5; have hx5 := box_below hx4 hb5; obtain ⟨p0, p1, p2⟩ := box_cells hI5; obtain ⟨q0, q1, q2⟩ := box_cells hx5; have hX5 := hX4.below hb5; have hIb5 := hIb4.below hb5; have hf4' := hf4.below hb5; have hs4 := run_str hf4'; have hs5 := run_str hf5)
        | (go_at_call 22; have _t := tok; refine (HS.out _ (by exact hIb5) (by exact hX5)).mono ?_; rintro e w6 ⟨rfl, hb6⟩; have hB6 := hB5.trans (hb6.mono hB5.size); have hx6 := box_below hx5 hb6; obtain ⟨q0, q1, q2⟩ := box_cells hx6; have hX6 := hX5.below hb6; have hf6 := hf4'.below hb6; clear tok _t)
        | (go_at_call 31; rw [HBl.out] at hf6 ⊢; refine (HD.out _ _ _ _ (by exact hf6) (by omega) (by omega)).mono ?_; rintro e w7 ⟨v7, m7, rfl, ho7, hb7⟩; obtain ⟨A8, c8, rfl, _, _⟩ := own_form ho7; have hB7 := hB6.trans (hb7.mono hB6.size); have hB8 := hB7.alloc hB7.size (.cells #[.int .i64 (K : Int), .int .u64 (P : Int), .slice A8 m7 c8] 45); have hx7 := box_below (box_below hx6 hb7) ((Below.refl _ _).alloc (Nat.le_refl _) (.cells #[.int .i64 (K : Int), .int .u64 (P : Int), .slice A8 m7 c8] 45)); obtain ⟨q0, q1, q2⟩ := box_cells hx7; have hX7 := (hX6.below hb7).alloc (.cells #[.int .i64 (K : Int), .int .u64 (P : Int), .slice A8 m7 c8] 45); have hX8 := (own_bs ho7).2.alloc (.cells #[.int .i64 (K : Int), .int .u64 (P : Int), .slice A8 m7 c8] 45))
        | (go_at_call 22; refine (HS2.out _ _ _ _ (by exact hX8) (by exact hX7)).mono ?_; rintro e w9 ⟨rfl, hb9⟩; have hB9 := hB8.trans (hb9.mono hB8.size)))
      go_ret
      exact ⟨rfl, HB0.out.trans (hB9.mono HB0.out.size)⟩
    · have hbad : k < 0 ∨ 256 ≤ k ∨ 224 < n := by omega
      clear hgood
      have HW := Lib.hid (fun W => write_neg k ep A7 n c7 W hbad)
      have HR := Lib.hid (fun W => rwrite_neg k ep A n c W hbad)
      have HS := Lib.hid (fun W h1 h2 => same_any k ep k ep A7 n c7 bs A n c bs W h1 h2)
      rw [decide_eq_true (p := k = k ∧ ep = ep ∧ bs = bs) ⟨rfl, rfl, rfl⟩] at HS
      clear hbad
      go_wp2_with (first
        | (go_at_call 21; refine (HW.out _).mono ?_; rintro e w4 ⟨rfl, hb4⟩; have hB4 := hBf.trans (hb4.mono hBf.size); have hI4 := box_below hI hb4; have hx4 := box_below hxf hb4; obtain ⟨p0, p1, p2⟩ := box_cells hI4; obtain ⟨q0, q1, q2⟩ := box_cells hx4; have hX4 := hXf.below hb4; have hIb4 := hIb.below hb4)
        | (go_at_call 30; refine (HR.out _).mono ?_; rintro e w5 ⟨v5, rfl, hf5, hb5⟩; obtain ⟨A5, c5, rfl, _, _, _⟩ := id hf5; have hB5 := hB4.trans (hb5.mono hB4.size); have hI5 := box_below hI4 hb5; have hx5 := box_below hx4 hb5; obtain ⟨p0, p1, p2⟩ := box_cells hI5; obtain ⟨q0, q1, q2⟩ := box_cells hx5; have hX5 := hX4.below hb5; have hIb5 := hIb4.below hb5; have hs4 := run_str (w := w5) (A := none) (n := 0) (c := 0) (bs := []) ⟨none, 0, rfl, Nat.le_refl _, by simp, At.nil _ _⟩; have hs5 := run_str (A := A5) (n := 0) (c := c5) (bs := []) hf5)
        | (go_at_call 22; refine (HS.out _ (by exact hIb5) (by exact hX5)).mono ?_; rintro e w6 ⟨rfl, hb6⟩; have hB6 := hB5.trans (hb6.mono hB5.size)))
      go_ret
      exact ⟨rfl, HB0.out.trans (hB6.mono HB0.out.size)⟩
  · obtain ⟨Wf, hWf⟩ : ∃ Wf, Wf = ((w3.setCell ⟨w1.heap.size + 1, 0, none⟩ (.int .i64 k)).setCell ⟨w1.heap.size + 1, 1, none⟩ (.int .u64 ep)).setCell ⟨w1.heap.size + 1, 2, none⟩ (.slice A7 n c7) := ⟨_, rfl⟩
    have hne : (Value.slice A7 (0 + n) c7).ownBlock ≠ some (w1.heap.size + 1) := by
      rcases ha3 with e | e
      · rw [e]; show some _ ≠ some _; simp
      · rw [e]; simp; try omega
    obtain ⟨ib, hib⟩ : ∃ ib, ib = w1.heap.size + 1 := ⟨_, rfl⟩
    rw [Nat.zero_add, List.nil_append] at ho3
    rw [Nat.zero_add] at hne
    rw [← hib] at hi3 hgib hWf hne
    have hBf : Below W.heap.size W Wf := by rw [hWf]; exact node_below3 hB3 hgib _ _ _
    have HI : Hid (Wf.heap[ib]? = some (.cells #[.int .i64 k, .int .u64 ep, .slice A7 n c7] 45 (0, 0))) := Lib.hid (by rw [hWf]; exact node_row3 hi3 _ _ _)
    have hIb : Bs Wf (.slice A7 n c7) bs := by rw [hWf]; exact (own_bs (own_set3' ho3 hne _ _ _)).2
    simp only [← hib]
    rw [← hWf]
    clear hWf hib hB3 ho3 hg3 ha3 hne hgib hi3 t0 t1 t2 z0 z1 z2
    have hI := HI.out
    have hXf := hX0.below hBf
    have hxf := box_below HRW.out hBf
    have HB0 := Lib.hid hb0
    clear hB1 hB2 hB5 hB6 hat1 hat2 hat5 hi2 hi5 hX hX0 x0 x1 x2 y0 y1 y2 hb1 hq1 hb0 HRW
    obtain ⟨p0, p1, p2⟩ := box_cells hI
    obtain ⟨q0, q1, q2⟩ := box_cells hxf
    by_cases hgood : 0 ≤ k ∧ k < 256 ∧ n ≤ 224
    · obtain ⟨hg0, hg1, hg2⟩ := hgood
      obtain ⟨K, rfl⟩ : ∃ K : Nat, k = (K : Int) := ⟨k.toNat, by omega⟩
      obtain ⟨P, rfl⟩ : ∃ P : Nat, ep = (P : Int) := ⟨ep.toNat, by omega⟩
      have hK8 : K < 256 := by omega
      have hP64 : P < 18446744073709551616 := by omega
      have HW := Lib.hid (fun W h => write_ok K P A7 n c7 bs W hK8 hP64 hg2 h)
      have HR := Lib.hid (fun W h => rwrite_ok K P A n c bs W hK8 hP64 hg2 h)
      have HS := Lib.hid (fun W h1 h2 => same_any (K : Int) (P : Int) (K : Int) (P : Int) A7 n c7 bs A n c bs W h1 h2)
      rw [decide_eq_true (p := (K : Int) = K ∧ (P : Int) = P ∧ bs = bs) ⟨rfl, rfl, rfl⟩] at HS
      have HS2 := Lib.hid (fun W A2 n2 c2 h1 h2 => same_any (K : Int) (P : Int) (K : Int) (P : Int) A2 n2 c2 bs A n c bs W h1 h2)
      rw [decide_eq_true (p := (K : Int) = K ∧ (P : Int) = P ∧ bs = bs) ⟨rfl, rfl, rfl⟩] at HS2
      obtain ⟨BB, hBB⟩ : ∃ BB, BB = nodeB K P bs := ⟨_, rfl⟩
      have hBl : BB.length = 9 + n := by rw [hBB, nodeB_length, ← HN.out]
      have HD := Lib.hid (fun W A2 n2 c2 h h9 hn => read_ok A2 n2 c2 BB W h h9 hn)
      have hk := nodeK_B K P bs hK8
      have he := nodeE_B K P bs hP64
      have hd := nodeD_B K P bs
      rw [← hBB] at hk he hd HW HR
      rw [hk, he, hd] at HD
      have HBl := Lib.hid hBl
      clear hk he hd hBB hBl
      have tok : True := trivial
      go_wp2_with (first
        | (go_at_call 21; refine (HW.out _ (by exact hIb)).mono ?_; rintro e w4 ⟨v4, rfl, hf4, hb4⟩; obtain ⟨A4, c4, rfl, _, _, _⟩ := id hf4.1; have hB4 := hBf.trans (hb4.mono hBf.size); have hI4 := box_below hI hb4; have hx4 := box_below hxf hb4; obtain ⟨p0, p1, p2⟩ := box_cells hI4; obtain ⟨q0, q1, q2⟩ := box_cells hx4; have hf4 := hf4.1; have hX4 := hXf.below hb4; have hIb4 := hIb.below hb4)
        | (go_at_call 30; refine (HR.out _ (by exact hX4)).mono ?_; rintro e w5 ⟨v5, rfl, hf5, hb5⟩; obtain ⟨A5, c5, rfl, _, _, _⟩ := id hf5; have hB5 := hB4.trans (hb5.mono hB4.size); have hI5 := box_below hI4 hb5; have hx5 := box_below hx4 hb5; obtain ⟨p0, p1, p2⟩ := box_cells hI5; obtain ⟨q0, q1, q2⟩ := box_cells hx5; have hX5 := hX4.below hb5; have hIb5 := hIb4.below hb5; have hf4' := hf4.below hb5; have hs4 := run_str hf4'; have hs5 := run_str hf5)
        | (go_at_call 22; have _t := tok; refine (HS.out _ (by exact hIb5) (by exact hX5)).mono ?_; rintro e w6 ⟨rfl, hb6⟩; have hB6 := hB5.trans (hb6.mono hB5.size); have hx6 := box_below hx5 hb6; obtain ⟨q0, q1, q2⟩ := box_cells hx6; have hX6 := hX5.below hb6; have hf6 := hf4'.below hb6; clear tok _t)
        | (go_at_call 31; rw [HBl.out] at hf6 ⊢; refine (HD.out _ _ _ _ (by exact hf6) (by omega) (by omega)).mono ?_; rintro e w7 ⟨v7, m7, rfl, ho7, hb7⟩; obtain ⟨A8, c8, rfl, _, _⟩ := own_form ho7; have hB7 := hB6.trans (hb7.mono hB6.size); have hB8 := hB7.alloc hB7.size (.cells #[.int .i64 (K : Int), .int .u64 (P : Int), .slice A8 m7 c8] 45); have hx7 := box_below (box_below hx6 hb7) ((Below.refl _ _).alloc (Nat.le_refl _) (.cells #[.int .i64 (K : Int), .int .u64 (P : Int), .slice A8 m7 c8] 45)); obtain ⟨q0, q1, q2⟩ := box_cells hx7; have hX7 := (hX6.below hb7).alloc (.cells #[.int .i64 (K : Int), .int .u64 (P : Int), .slice A8 m7 c8] 45); have hX8 := (own_bs ho7).2.alloc (.cells #[.int .i64 (K : Int), .int .u64 (P : Int), .slice A8 m7 c8] 45))
        | (go_at_call 22; refine (HS2.out _ _ _ _ (by exact hX8) (by exact hX7)).mono ?_; rintro e w9 ⟨rfl, hb9⟩; have hB9 := hB8.trans (hb9.mono hB8.size)))
      go_ret
      exact ⟨rfl, HB0.out.trans (hB9.mono HB0.out.size)⟩
    · have hbad : k < 0 ∨ 256 ≤ k ∨ 224 < n := by omega
      clear hgood
      have HW := Lib.hid (fun W => write_neg k ep A7 n c7 W hbad)
      have HR := Lib.hid (fun W => rwrite_neg k ep A n c W hbad)
      have HS := Lib.hid (fun W h1 h2 => same_any k ep k ep A7 n c7 bs A n c bs W h1 h2)
      rw [decide_eq_true (p := k = k ∧ ep = ep ∧ bs = bs) ⟨rfl, rfl, rfl⟩] at HS
      clear hbad
      go_wp2_with (first
        | (go_at_call 21; refine (HW.out _).mono ?_; rintro e w4 ⟨rfl, hb4⟩; have hB4 := hBf.trans (hb4.mono hBf.size); have hI4 := box_below hI hb4; have hx4 := box_below hxf hb4; obtain ⟨p0, p1, p2⟩ := box_cells hI4; obtain ⟨q0, q1, q2⟩ := box_cells hx4; have hX4 := hXf.below hb4; have hIb4 := hIb.below hb4)
        | (go_at_call 30; refine (HR.out _).mono ?_; rintro e w5 ⟨v5, rfl, hf5, hb5⟩; obtain ⟨A5, c5, rfl, _, _, _⟩ := id hf5; have hB5 := hB4.trans (hb5.mono hB4.size); have hI5 := box_below hI4 hb5; have hx5 := box_below hx4 hb5; obtain ⟨p0, p1, p2⟩ := box_cells hI5; obtain ⟨q0, q1, q2⟩ := box_cells hx5; have hX5 := hX4.below hb5; have hIb5 := hIb4.below hb5; have hs4 := run_str (w := w5) (A := none) (n := 0) (c := 0) (bs := []) ⟨none, 0, rfl, Nat.le_refl _, by simp, At.nil _ _⟩; have hs5 := run_str (A := A5) (n := 0) (c := c5) (bs := []) hf5)
        | (go_at_call 22; refine (HS.out _ (by exact hIb5) (by exact hX5)).mono ?_; rintro e w6 ⟨rfl, hb6⟩; have hB6 := hB5.trans (hb6.mono hB5.size)))
      go_ret
      exact ⟨rfl, HB0.out.trans (hB6.mono HB0.out.size)⟩
  · obtain ⟨Wf, hWf⟩ : ∃ Wf, Wf = ((w3.setCell ⟨w1.heap.size, 0, none⟩ (.int .i64 k)).setCell ⟨w1.heap.size, 1, none⟩ (.int .u64 ep)).setCell ⟨w1.heap.size, 2, none⟩ (.slice A7 n c7) := ⟨_, rfl⟩
    have hne : (Value.slice A7 (0 + n) c7).ownBlock ≠ some (w1.heap.size) := by
      rcases ha3 with e | e
      · rw [e]; show some _ ≠ some _; simp
      · rw [e]; simp; try omega
    obtain ⟨ib, hib⟩ : ∃ ib, ib = w1.heap.size := ⟨_, rfl⟩
    rw [Nat.zero_add, List.nil_append] at ho3
    rw [Nat.zero_add] at hne
    rw [← hib] at hi3 hgib hWf hne
    have hBf : Below W.heap.size W Wf := by rw [hWf]; exact node_below3 hB3 hgib _ _ _
    have HI : Hid (Wf.heap[ib]? = some (.cells #[.int .i64 k, .int .u64 ep, .slice A7 n c7] 45 (0, 0))) := Lib.hid (by rw [hWf]; exact node_row3 hi3 _ _ _)
    have hIb : Bs Wf (.slice A7 n c7) bs := by rw [hWf]; exact (own_bs (own_set3' ho3 hne _ _ _)).2
    simp only [← hib]
    rw [← hWf]
    clear hWf hib hB3 ho3 hg3 ha3 hne hgib hi3 t0 t1 t2 z0 z1 z2
    have hI := HI.out
    have hXf := hX0.below hBf
    have hxf := box_below HRW.out hBf
    have HB0 := Lib.hid hb0
    clear hB1 hB2 hB5 hB6 hat1 hat2 hat5 hi2 hi5 hX hX0 x0 x1 x2 y0 y1 y2 hb1 hq1 hb0 HRW
    obtain ⟨p0, p1, p2⟩ := box_cells hI
    obtain ⟨q0, q1, q2⟩ := box_cells hxf
    by_cases hgood : 0 ≤ k ∧ k < 256 ∧ n ≤ 224
    · obtain ⟨hg0, hg1, hg2⟩ := hgood
      obtain ⟨K, rfl⟩ : ∃ K : Nat, k = (K : Int) := ⟨k.toNat, by omega⟩
      obtain ⟨P, rfl⟩ : ∃ P : Nat, ep = (P : Int) := ⟨ep.toNat, by omega⟩
      have hK8 : K < 256 := by omega
      have hP64 : P < 18446744073709551616 := by omega
      have HW := Lib.hid (fun W h => write_ok K P A7 n c7 bs W hK8 hP64 hg2 h)
      have HR := Lib.hid (fun W h => rwrite_ok K P A n c bs W hK8 hP64 hg2 h)
      have HS := Lib.hid (fun W h1 h2 => same_any (K : Int) (P : Int) (K : Int) (P : Int) A7 n c7 bs A n c bs W h1 h2)
      rw [decide_eq_true (p := (K : Int) = K ∧ (P : Int) = P ∧ bs = bs) ⟨rfl, rfl, rfl⟩] at HS
      have HS2 := Lib.hid (fun W A2 n2 c2 h1 h2 => same_any (K : Int) (P : Int) (K : Int) (P : Int) A2 n2 c2 bs A n c bs W h1 h2)
      rw [decide_eq_true (p := (K : Int) = K ∧ (P : Int) = P ∧ bs = bs) ⟨rfl, rfl, rfl⟩] at HS2
      obtain ⟨BB, hBB⟩ : ∃ BB, BB = nodeB K P bs := ⟨_, rfl⟩
      have hBl : BB.length = 9 + n := by rw [hBB, nodeB_length, ← HN.out]
      have HD := Lib.hid (fun W A2 n2 c2 h h9 hn => read_ok A2 n2 c2 BB W h h9 hn)
      have hk := nodeK_B K P bs hK8
      have he := nodeE_B K P bs hP64
      have hd := nodeD_B K P bs
      rw [← hBB] at hk he hd HW HR
      rw [hk, he, hd] at HD
      have HBl := Lib.hid hBl
      clear hk he hd hBB hBl
      have tok : True := trivial
      go_wp2_with (first
        | (go_at_call 21; refine (HW.out _ (by exact hIb)).mono ?_; rintro e w4 ⟨v4, rfl, hf4, hb4⟩; obtain ⟨A4, c4, rfl, _, _, _⟩ := id hf4.1; have hB4 := hBf.trans (hb4.mono hBf.size); have hI4 := box_below hI hb4; have hx4 := box_below hxf hb4; obtain ⟨p0, p1, p2⟩ := box_cells hI4; obtain ⟨q0, q1, q2⟩ := box_cells hx4; have hf4 := hf4.1; have hX4 := hXf.below hb4; have hIb4 := hIb.below hb4)
        | (go_at_call 30; refine (HR.out _ (by exact hX4)).mono ?_; rintro e w5 ⟨v5, rfl, hf5, hb5⟩; obtain ⟨A5, c5, rfl, _, _, _⟩ := id hf5; have hB5 := hB4.trans (hb5.mono hB4.size); have hI5 := box_below hI4 hb5; have hx5 := box_below hx4 hb5; obtain ⟨p0, p1, p2⟩ := box_cells hI5; obtain ⟨q0, q1, q2⟩ := box_cells hx5; have hX5 := hX4.below hb5; have hIb5 := hIb4.below hb5; have hf4' := hf4.below hb5; have hs4 := run_str hf4'; have hs5 := run_str hf5)
        | (go_at_call 22; have _t := tok; refine (HS.out _ (by exact hIb5) (by exact hX5)).mono ?_; rintro e w6 ⟨rfl, hb6⟩; have hB6 := hB5.trans (hb6.mono hB5.size); have hx6 := box_below hx5 hb6; obtain ⟨q0, q1, q2⟩ := box_cells hx6; have hX6 := hX5.below hb6; have hf6 := hf4'.below hb6; clear tok _t)
        | (go_at_call 31; rw [HBl.out] at hf6 ⊢; refine (HD.out _ _ _ _ (by exact hf6) (by omega) (by omega)).mono ?_; rintro e w7 ⟨v7, m7, rfl, ho7, hb7⟩; obtain ⟨A8, c8, rfl, _, _⟩ := own_form ho7; have hB7 := hB6.trans (hb7.mono hB6.size); have hB8 := hB7.alloc hB7.size (.cells #[.int .i64 (K : Int), .int .u64 (P : Int), .slice A8 m7 c8] 45); have hx7 := box_below (box_below hx6 hb7) ((Below.refl _ _).alloc (Nat.le_refl _) (.cells #[.int .i64 (K : Int), .int .u64 (P : Int), .slice A8 m7 c8] 45)); obtain ⟨q0, q1, q2⟩ := box_cells hx7; have hX7 := (hX6.below hb7).alloc (.cells #[.int .i64 (K : Int), .int .u64 (P : Int), .slice A8 m7 c8] 45); have hX8 := (own_bs ho7).2.alloc (.cells #[.int .i64 (K : Int), .int .u64 (P : Int), .slice A8 m7 c8] 45))
        | (go_at_call 22; refine (HS2.out _ _ _ _ (by exact hX8) (by exact hX7)).mono ?_; rintro e w9 ⟨rfl, hb9⟩; have hB9 := hB8.trans (hb9.mono hB8.size)))
      go_ret
      exact ⟨rfl, HB0.out.trans (hB9.mono HB0.out.size)⟩
    · have hbad : k < 0 ∨ 256 ≤ k ∨ 224 < n := by omega
      clear hgood
      have HW := Lib.hid (fun W => write_neg k ep A7 n c7 W hbad)
      have HR := Lib.hid (fun W => rwrite_neg k ep A n c W hbad)
      have HS := Lib.hid (fun W h1 h2 => same_any k ep k ep A7 n c7 bs A n c bs W h1 h2)
      rw [decide_eq_true (p := k = k ∧ ep = ep ∧ bs = bs) ⟨rfl, rfl, rfl⟩] at HS
      clear hbad
      go_wp2_with (first
        | (go_at_call 21; refine (HW.out _).mono ?_; rintro e w4 ⟨rfl, hb4⟩; have hB4 := hBf.trans (hb4.mono hBf.size); have hI4 := box_below hI hb4; have hx4 := box_below hxf hb4; obtain ⟨p0, p1, p2⟩ := box_cells hI4; obtain ⟨q0, q1, q2⟩ := box_cells hx4; have hX4 := hXf.below hb4; have hIb4 := hIb.below hb4)
        | (go_at_call 30; refine (HR.out _).mono ?_; rintro e w5 ⟨v5, rfl, hf5, hb5⟩; obtain ⟨A5, c5, rfl, _, _, _⟩ := id hf5; have hB5 := hB4.trans (hb5.mono hB4.size); have hI5 := box_below hI4 hb5; have hx5 := box_below hx4 hb5; obtain ⟨p0, p1, p2⟩ := box_cells hI5; obtain ⟨q0, q1, q2⟩ := box_cells hx5; have hX5 := hX4.below hb5; have hIb5 := hIb4.below hb5; have hs4 := run_str (w := w5) (A := none) (n := 0) (c := 0) (bs := []) ⟨none, 0, rfl, Nat.le_refl _, by simp, At.nil _ _⟩; have hs5 := run_str (A := A5) (n := 0) (c := c5) (bs := []) hf5)
        | (go_at_call 22; refine (HS.out _ (by exact hIb5) (by exact hX5)).mono ?_; rintro e w6 ⟨rfl, hb6⟩; have hB6 := hB5.trans (hb6.mono hB5.size)))
      go_ret
      exact ⟨rfl, HB0.out.trans (hB6.mono HB0.out.size)⟩
end Go.Proofs.YtljdfhckllncoaaK

namespace Go.Proofs.YtljdfhckllncoaaK
open Go.RowKit
set_option linter.unusedSimpArgs false
set_option linter.unusedVariables false
theorem rc_back (bs : List UInt8) (hl : bs.length = 44) : cmtB (rcE bs) (bs.drop 12) (rcS bs) = bs := by
  unfold cmtB rcE rcS
  have h1 := numB_numV (bs.take 8)
  have h2 := numB_numV ((bs.drop 8).take 4)
  rw [show (bs.take 8).length = 8 from by simp [hl]] at h1
  rw [show ((bs.drop 8).take 4).length = 4 from by simp [hl]] at h2
  rw [h1, h2, show bs.drop 12 = (bs.drop 8).drop 4 from by rw [List.drop_drop], List.take_append_drop, List.take_append_drop]
theorem rc_of (e : Nat) (live : List UInt8) (s : Nat) (hl : live.length = 32) (he : e < 18446744073709551616) (hs : s < 4294967296) :
    rcE (cmtB e live s) = e ∧ rcS (cmtB e live s) = s ∧ (cmtB e live s).drop 12 = live := by
  have h8 : (numB 8 e).length = 8 := numB_length _ _
  have h4 : (numB 4 s).length = 4 := numB_length _ _
  unfold rcE rcS cmtB
  refine ⟨?_, ?_, ?_⟩
  · rw [List.take_append_of_le_length (by omega), List.take_of_length_le (by omega), numV_numB]; omega
  · rw [List.drop_append_of_le_length (by omega), List.drop_of_length_le (by omega), List.nil_append, List.take_append_of_le_length (by omega), List.take_of_length_le (by omega), numV_numB]; omega
  · rw [List.drop_append, List.drop_of_length_le (by omega), List.nil_append, h8, List.drop_append_of_le_length (by omega), List.drop_of_length_le (by omega), List.nil_append]
theorem rc_lt (bs : List UInt8) : rcE bs < 18446744073709551616 ∧ rcS bs < 4294967296 := by
  constructor
  · have h1 : (bs.take 8).length ≤ 8 := by rw [List.length_take]; omega
    exact Nat.lt_of_lt_of_le (numV_lt (bs.take 8)) (by have := Nat.pow_le_pow_right (n := 256) (by decide) h1; simpa using this)
  · have h1 : ((bs.drop 8).take 4).length ≤ 4 := by rw [List.length_take]; omega
    exact Nat.lt_of_lt_of_le (numV_lt ((bs.drop 8).take 4)) (by have := Nat.pow_le_pow_right (n := 256) (by decide) h1; simpa using this)
/-- A slice of bytes, that reads. -/
def BsV (bs : List UInt8) (v : Value) (w : World) : Prop := ∃ A n c, v = .slice A n c ∧ Bs w (.slice A n c) bs
theorem BsV.below {bs : List UInt8} {v : Value} {w w' : World} (h : BsV bs v w) (hb : Below w.heap.size w w') : BsV bs v w' := by
  obtain ⟨A, n, c, h1, h2⟩ := h; exact ⟨A, n, c, h1, h2.below hb⟩
def cmF (xb : Nat) (E S : Nat) (cb n8 n4 live : List UInt8) : Nat → Value → World → Prop
  | 0, v, w => BsV cb v w
  | 1, v, _ => v = .string (str cb)
  | 2, v, _ => v = .pointer (some ⟨xb, 0, none⟩)
  | 3, v, _ => v = .int .u64 (E : Int)
  | 4, v, w => BsV n8 v w
  | 5, v, _ => v = .string (str n8)
  | 6, v, _ => v = .pointer (some ⟨xb, 33, none⟩)
  | 7, v, _ => v = .int .u32 (S : Int)
  | 8, v, _ => v = .int .u64 (S : Int)
  | 9, v, w => BsV n4 v w
  | 10, v, _ => v = .string (str n4)
  | 11, v, _ => v = .string (str (n8 ++ n4))
  | 12, v, _ => v = .pointer (some ⟨xb, 1, none⟩)
  | 13, v, _ => v = .slice (some ⟨xb, 1, none⟩) 32 32
  | 14, v, _ => v = .string (str live)
  | 15, v, _ => v = .string (str cb)
  | 16, v, _ => v = .bool false
  | _, _, _ => False
theorem cmF_below {xb : Nat} {E S : Nat} {cb n8 n4 live : List UInt8} (i : Nat) (v : Value) (w w' : World) (hb : Below w.heap.size w w') (h : cmF xb E S cb n8 n4 live i v w) : cmF xb E S cb n8 n4 live i v w' := by
  match i with
  | 0 => exact BsV.below h hb
  | 4 => exact BsV.below h hb
  | 9 => exact BsV.below h hb
  | 1 | 2 | 3 | 5 | 6 | 7 | 8 | 10 | 11 | 12 | 13 | 14 | 15 | 16 => exact h
  | n + 17 => exact h
def yesP : Nat → Nat → Value → Value → Prop := fun _ _ _ _ => True
theorem str_append (a b : List UInt8) : str a ++ str b = str (a ++ b) := by
  unfold str
  apply ByteArray.ext
  simp
def cmG (M : List Value) (raw : List UInt8) : Nat → Value → World → Prop
  | 0, v, _ => v = .int .i64 0
  | 1, v, _ => v = .bool true
  | 2, v, _ => v = .bool true
  | 3, v, _ => v = .agg M.toArray
  | 4, v, w => BsV raw v w
  | 5, v, _ => v = .string (str raw)
  | 6, v, w => BsV raw v w
  | 7, v, _ => v = .string (str raw)
  | 8, v, _ => v = .bool true
  | 9, v, _ => v = .bool true
  | 10, v, _ => v = .bool true
  | _, _, _ => False
theorem cmG_below {M : List Value} {raw : List UInt8} (i : Nat) (v : Value) (w w' : World) (hb : Below w.heap.size w w') (h : cmG M raw i v w) : cmG M raw i v w' := by
  match i with
  | 4 => exact BsV.below h hb
  | 6 => exact BsV.below h hb
  | 0 | 1 | 2 | 3 | 5 | 7 | 8 | 9 | 10 => exact h
  | n + 11 => exact h
theorem bsV_own {B : Nat} {w : World} {v : Value} {n : Nat} {bs : List UInt8} (h : w.ownsRow B 5 1 v n (bs.map encB)) : BsV bs v w := by
  obtain ⟨hn, hb⟩ := own_bs h
  obtain ⟨A, c, rfl, _, _⟩ := own_form h
  exact ⟨A, n, c, rfl, hb⟩
set_option maxRecDepth 100000 in
set_option maxHeartbeats 8000000 in
theorem nodeCommits_walk (E : Nat) (live : List UInt8) (S : Nat) (A : Option Addr) (n c : Nat) (raw : List UInt8) (w : World) (hl : live.length = 32) (he : E < 18446744073709551616) (hs : S < 4294967296) (hX : Bs w (.slice A n c) raw) :
    Calls Try.prog 12 #[.agg (cmtL (E : Int) live (S : Int)).toArray, .slice A n c] w fun e w' => e = .returned (.bool true) ∧ Below w.heap.size w w' := by
  have HL := Lib.hid hX.len
  by_cases hg : 1000 < n
  · clear hX
    go_enter Try.func12, Try.ntmps12
    go_wp2_with (go_at_call 20; refine (node_speaks _).mono ?_; rintro e w1 ⟨rfl, hb1⟩)
    go_ret
    exact ⟨rfl, ((Below.refl w.heap.size w).alloc (Nat.le_refl _) _).trans (hb1.mono (by simp))⟩
  have HWc := Lib.hid (fun W => wcommit_any E live S W hl he hs)
  obtain ⟨hcE, hcS, hcL⟩ := rc_of E live S hl he hs
  have HRc := Lib.hid (fun A n c W h h44 => rcommit_ok A n c (cmtB E live S) W h h44)
  rw [hcE, hcS, hcL] at HRc
  have hcl := cmtB_length E live S hl
  have hcb : cmtB E live S = numB 8 E ++ (numB 4 S ++ live) := rfl
  have hN := fun W (s : Int) (N : Nat) h => refnum_any s N W h
  have HNum := Lib.hid hN
  obtain ⟨cb, hcbe⟩ : ∃ cb, cb = cmtB E live S := ⟨_, rfl⟩
  rw [← hcbe] at HWc HRc hcl hcb
  have hcells : ∀ e l s, cmtC e l s = (cmtL e l s).toArray := fun e l s => (cmtL_arr e l s).symm
  rw [hcells] at HWc
  have heq := fun w => commit_eql (E : Int) live (S : Int) (E : Int) live (S : Int) hl hl (by omega) (by omega) (by omega) (by omega) w
  rw [hcells] at heq
  simp only [and_self, decide_true] at heq
  have HEQ := Lib.hid heq
  obtain ⟨L, hL⟩ : ∃ L, L = cmtL (E : Int) live (S : Int) := ⟨_, rfl⟩
  rw [← hL] at HWc HRc HEQ ⊢
  have hLl : L.length = 34 := by rw [hL]; exact cmtL_length _ _ _ hl
  have h1L : ∀ v ∈ L, v.oneCell' = true := by rw [hL]; exact cmtL_one _ _ _
  have hL0 : L[0]? = some (.int .u64 (E : Int)) := by rw [hL]; rfl
  have hL33 : L[33]? = some (.int .u32 (S : Int)) := by
    rw [hL]; unfold cmtL
    rw [List.getElem?_append_right (by simp), List.getElem?_append_right (by simp [hl])]
    simp [hl]
  have hLj : ∀ j u, (live.map encB)[j]? = some u → L[1 + j]? = some u := fun j u hu => by
    rw [hL]; unfold cmtL
    have hj : j < 32 := by
      have := (List.getElem?_eq_some_iff.1 hu).1
      simpa [hl] using this
    rw [List.getElem?_append_right (by simp), List.getElem?_append_left (by simp [hl]; omega)]
    rw [show 1 + j - [Value.int .u64 (E : Int)].length = j from by simp]
    exact hu
  have HI := Lib.hid (show (Try.prog.info? 50).map (·.size) = some L.length by rw [hLl]; exact rc_info)
  have HIA := Lib.hid (show (Try.prog.info? 50).map (·.size) = some L.toArray.size by rw [List.size_toArray, hLl]; exact rc_info)
  have H1A : Hid (L.toArray.all (·.oneCell') = true) := Lib.hid (all_oneCell_toArray h1L)
  have hz := rc_zero
  obtain ⟨Z, hZ⟩ : ∃ Z, Z = cmt0L := ⟨_, rfl⟩
  rw [← hZ] at hz
  have HZE := Lib.hid hZ
  have hZl : Z.length = 34 := by rw [hZ]; exact cmtL_length _ _ _ (by decide)
  have HZL : Hid (L.toArray.size = Z.toArray.toList.length) := Lib.hid (by simp [hLl, hZl])
  have HZl := Lib.hid hZl
  have HL0 := Lib.hid hL0
  have HL33 := Lib.hid hL33
  have HLJ := Lib.hid hLj
  have HCB := Lib.hid hcb
  have HCL := Lib.hid hcl
  have HLL := Lib.hid hLl
  have HLV := Lib.hid hl
  have e2 : IntKind.u64.wrap (S : Int) = S := by rw [IntKind.wrap_u64]; omega
  have E2 := Lib.hid e2
  have HE9 := Lib.hid he
  have HS9 := Lib.hid hs
  clear heq hcE hcS hcL hcbe hN hL hLl h1L hL0 hL33 hLj hZ hZl hcb hcl hl he hs e2 hcells
  obtain ⟨W, hW⟩ : ∃ W, W = w.alloc (.cells L.toArray 50) := ⟨_, rfl⟩
  obtain ⟨xb, hxb⟩ : ∃ xb, xb = w.heap.size := ⟨_, rfl⟩
  have hR0 : Rows w [(xb, L)] W := by rw [hW, hxb]; exact (Rows.nil w).newL L _
  go_enter Try.func12, Try.ntmps12
  go_wp2_with fail
  rw [← hW]
  simp only [← hxb]
  clear hW hxb
  go_upto_region 6 with (first
    | (go_at_call 20; refine (node_speaks _).mono ?_; rintro e w1 ⟨rfl, hb1⟩; have hR1 := hR0.go hb1; have hA1 := hR1.get (b := xb) (L := L) (by simp))
    | (refine wpList_load_mid rfl 50 _ rfl xb 0 rfl L _ hA1.1 Try.underlying50 rfl HI.out ?_)
    | (refine wp_load_mid 50 _ rfl xb 0 rfl L _ hA1.1 Try.underlying50 rfl HI.out ?_)
    | (go_at_call 23; refine (HWc.out _).mono ?_; rintro e w2 ⟨v2, rfl, hf2, hb2⟩; have hR2 := hR1.go hb2))
  obtain ⟨A2, c2, rfl, hc21, hc22, _⟩ := hf2.1
  have hB2 := hf2.1
  clear hA1 hR1 hR0 hf2
  refine wp_region_front 17 [17, 18, 19, 20, 21, 22, 23, 24, 25, 26, 27, 28, 29, 30, 31, 32, 33] 0 #[true, true, true, true, true, true, true, true, true, true, true, true, true, true, true, true, true] (fun W => Rows w [(xb, L)] W ∧ Bs W (.slice A2 cb.length c2) cb) (cmF xb E S cb (numB 8 E) (numB 4 S) live) yesP (by kernel_rfl) (by kernel_rfl) (by kernel_rfl) (by kernel_rfl) (by kernel_rfl) (fun _ _ hb h => ⟨h.1.go hb, h.2.below hb⟩) cmF_below ⟨hR2.drew, hB2.below (Below.refl _ _).drew⟩ ?_ ?_
  · intro i hi s w3 hs hB hd
    have s2 : s 2 = .pointer (some ⟨xb, 0, none⟩) := hs 2 (by decide)
    have s5 : s 5 = .slice A2 cb.length c2 := hs 5 (by decide)
    have hA := hB.1.get (b := xb) (L := L) (by simp)
    have hc0 := hA.at_ 0 _ HL0.out
    have hc33 := hA.at_ 33 _ HL33.out
    obtain rfl | rfl | rfl | rfl | rfl | rfl | rfl | rfl | rfl | rfl | rfl | rfl | rfl | rfl | rfl | rfl | rfl : i = 0 ∨ i = 1 ∨ i = 2 ∨ i = 3 ∨ i = 4 ∨ i = 5 ∨ i = 6 ∨ i = 7 ∨ i = 8 ∨ i = 9 ∨ i = 10 ∨ i = 11 ∨ i = 12 ∨ i = 13 ∨ i = 14 ∨ i = 15 ∨ i = 16 := by omega
    all_goals refine stepG_plain (by rfl) ?_
    · exact stepS_move _ rfl ⟨Below.refl _ _, by show BsV cb (s 5) w3; rw [s5]; exact ⟨_, _, _, rfl, hB.2⟩, fun j _ _ u _ => ⟨trivial, trivial⟩⟩
    · obtain ⟨A3, n3, c3, h1, h2⟩ : BsV cb (s 17) w3 := hd 0 (by decide +kernel)
      refine stepS_run (v := .string (str cb)) ?_ ⟨Below.refl _ _, rfl, fun j _ _ u _ => ⟨trivial, trivial⟩⟩
      simp [execOp, evS, h1, run_str h2, Result.andThen]
    · refine stepS_run (v := .pointer (some ⟨xb, 0, none⟩)) ?_ ⟨Below.refl _ _, rfl, fun j _ _ u _ => ⟨trivial, trivial⟩⟩
      simp [execOp, evS, s2, go_sem]
    · have h2 : s 19 = .pointer (some ⟨xb, 0, none⟩) := hd 2 (by decide +kernel)
      refine stepS_run (v := .int .u64 (E : Int)) ?_ ⟨Below.refl _ _, rfl, fun j _ _ u _ => ⟨trivial, trivial⟩⟩
      simp [execOp, evS, h2, go_sem, hc0]
    · have h3 : s 20 = .int .u64 (E : Int) := hd 3 (by decide +kernel)
      refine stepS_call rfl Try.func33 (by kernel_rfl) (by kernel_rfl) #[.int .i64 8, .int .u64 (E : Int)] (by simp [evS, h3]) ((HNum.out w3 8 E HE9.out).mono ?_)
      rintro e w4 ⟨v, rfl, ho, hb4⟩
      exact ⟨_, rfl, hb4, bsV_own ho, fun j _ _ u _ => ⟨trivial, trivial⟩⟩
    · obtain ⟨A3, n3, c3, h1, h2⟩ : BsV (numB 8 E) (s 21) w3 := hd 4 (by decide +kernel)
      refine stepS_run (v := .string (str (numB 8 E))) ?_ ⟨Below.refl _ _, rfl, fun j _ _ u _ => ⟨trivial, trivial⟩⟩
      simp [execOp, evS, h1, run_str h2, Result.andThen]
    · refine stepS_run (v := .pointer (some ⟨xb, 33, none⟩)) ?_ ⟨Below.refl _ _, rfl, fun j _ _ u _ => ⟨trivial, trivial⟩⟩
      simp [execOp, evS, s2, go_sem]
    · have h2 : s 23 = .pointer (some ⟨xb, 33, none⟩) := hd 6 (by decide +kernel)
      refine stepS_run (v := .int .u32 (S : Int)) ?_ ⟨Below.refl _ _, rfl, fun j _ _ u _ => ⟨trivial, trivial⟩⟩
      simp [execOp, evS, h2, go_sem, hc33]
    · have h2 : s 24 = .int .u32 (S : Int) := hd 7 (by decide +kernel)
      refine stepS_run (v := .int .u64 (S : Int)) ?_ ⟨Below.refl _ _, rfl, fun j _ _ u _ => ⟨trivial, trivial⟩⟩
      simp [execOp, evS, h2, go_sem, E2.out]
    · have h3 : s 25 = .int .u64 (S : Int) := hd 8 (by decide +kernel)
      refine stepS_call rfl Try.func33 (by kernel_rfl) (by kernel_rfl) #[.int .i64 4, .int .u64 (S : Int)] (by simp [evS, h3]) ((HNum.out w3 4 S (by have := HS9.out; omega)).mono ?_)
      rintro e w4 ⟨v, rfl, ho, hb4⟩
      exact ⟨_, rfl, hb4, bsV_own ho, fun j _ _ u _ => ⟨trivial, trivial⟩⟩
    · obtain ⟨A3, n3, c3, h1, h2⟩ : BsV (numB 4 S) (s 26) w3 := hd 9 (by decide +kernel)
      refine stepS_run (v := .string (str (numB 4 S))) ?_ ⟨Below.refl _ _, rfl, fun j _ _ u _ => ⟨trivial, trivial⟩⟩
      simp [execOp, evS, h1, run_str h2, Result.andThen]
    · have h1 : s 22 = .string (str (numB 8 E)) := hd 5 (by decide +kernel)
      have h2 : s 27 = .string (str (numB 4 S)) := hd 10 (by decide +kernel)
      refine stepS_run (v := .string (str (numB 8 E ++ numB 4 S))) ?_ ⟨Below.refl _ _, rfl, fun j _ _ u _ => ⟨trivial, trivial⟩⟩
      have z1 : (str (numB 8 E)).size + (str (numB 4 S)).size ≤ 9223372036854775807 := by rw [str_size, str_size, numB_length, numB_length]; decide
      simp [execOp, evS, h1, h2, go_sem, str_append, z1]
    · refine stepS_run (v := .pointer (some ⟨xb, 1, none⟩)) ?_ ⟨Below.refl _ _, rfl, fun j _ _ u _ => ⟨trivial, trivial⟩⟩
      simp [execOp, evS, s2, go_sem]
    · have h1 : s 29 = .pointer (some ⟨xb, 1, none⟩) := hd 12 (by decide +kernel)
      refine stepS_run (v := .slice (some ⟨xb, 1, none⟩) 32 32) ?_ ⟨Below.refl _ _, rfl, fun j _ _ u _ => ⟨trivial, trivial⟩⟩
      simp [execOp, evS, h1, go_sem]
    · have h1 : s 30 = .slice (some ⟨xb, 1, none⟩) 32 32 := hd 13 (by decide +kernel)
      have h2 : Bs w3 (.slice (some ⟨xb, 1, none⟩) 32 32) live := by
        refine ⟨some ⟨xb, 1, none⟩, 32, by rw [HLV.out], by rw [HLV.out]; exact Nat.le_refl _, by rw [HLV.out]; decide, fun j u hu => ⟨_, rfl, ?_⟩⟩
        rw [Addr.add_mid]
        exact hA.at_ (1 + j) u (HLJ.out j u hu)
      refine stepS_run (v := .string (str live)) ?_ ⟨Below.refl _ _, rfl, fun j _ _ u _ => ⟨trivial, trivial⟩⟩
      simp [execOp, evS, h1, run_str h2, Result.andThen]
    · have h1 : s 28 = .string (str (numB 8 E ++ numB 4 S)) := hd 11 (by decide +kernel)
      have h2 : s 31 = .string (str live) := hd 14 (by decide +kernel)
      refine stepS_run (v := .string (str cb)) ?_ ⟨Below.refl _ _, rfl, fun j _ _ u _ => ⟨trivial, trivial⟩⟩
      have z1 : (str (numB 8 E ++ numB 4 S)).size + (str live).size ≤ 9223372036854775807 := by rw [str_size, str_size, List.length_append, numB_length, numB_length, HLV.out]; decide
      have z2 : str (numB 8 E ++ numB 4 S ++ live) = str cb := by rw [HCB.out, List.append_assoc]
      rw [← z2, ← str_append]
      simp [execOp, evS, h1, h2, go_sem, z1]
    · have h1 : s 18 = .string (str cb) := hd 1 (by decide +kernel)
      have h2 : s 32 = .string (str cb) := hd 15 (by decide +kernel)
      refine stepS_run (v := .bool false) ?_ ⟨Below.refl _ _, rfl, fun j _ _ u _ => ⟨trivial, trivial⟩⟩
      simp [execOp, evS, h1, h2, go_sem]
  · intro s w3 hB hF hP
    have h33 : s 33 = .bool false := hF 16 (by decide)
    obtain ⟨hR3, hB3⟩ := hB
    refine wpAny_end (by kernel_rfl) ?_
    simp only [setAll, List.foldl_cons, List.foldl_nil, List.setIfInBounds_toArray, List.set_cons_succ, List.set_cons_zero, h33]
    have HXX := Lib.hid hX
    clear hF hP h33 hR2 hB2 hX
    have HRc2 := Lib.hid (HRc.out A2 cb.length c2)
    by_cases h44 : n = 44
    · have HRr := Lib.hid (fun W h => rcommit_ok A n c raw W h h44)
      have hrl : raw.length = 44 := by rw [← HL.out]; exact h44
      have hback := rc_back raw hrl
      have hrt := rc_lt raw
      have hrd : (raw.drop 12).length = 32 := by rw [List.length_drop]; omega
      have HWr := Lib.hid (fun W => wcommit_any (rcE raw) (raw.drop 12) (rcS raw) W hrd hrt.1 hrt.2)
      rw [hback] at HWr
      have hcells : ∀ e l s, cmtC e l s = (cmtL e l s).toArray := fun e l s => (cmtL_arr e l s).symm
      rw [hcells] at HWr
      obtain ⟨M, hM⟩ : ∃ M, M = cmtL (rcE raw : Int) (raw.drop 12) (rcS raw : Int) := ⟨_, rfl⟩
      rw [← hM] at HRr HWr
      have hMl : M.length = 34 := by rw [hM]; exact cmtL_length _ _ _ hrd
      have h1M : ∀ v ∈ M, v.oneCell' = true := by rw [hM]; exact cmtL_one _ _ _
      have HIM := Lib.hid (show (Try.prog.info? 50).map (·.size) = some M.length by rw [hMl]; exact rc_info)
      have HIMA := Lib.hid (show (Try.prog.info? 50).map (·.size) = some M.toArray.size by rw [List.size_toArray, hMl]; exact rc_info)
      have H1M : Hid (M.toArray.all (·.oneCell') = true) := Lib.hid (all_oneCell_toArray h1M)
      have HZM : Hid (M.toArray.size = Z.toArray.toList.length) := Lib.hid (by simp [hMl, HZl.out])
      have H44 := Lib.hid h44
      have h44i : (n : Int) = 44 := by omega
      have HN44 := Lib.hid h44i
      have HRL := Lib.hid hrl
      clear hM hMl h1M hback hrt hrd hcells h44 hrl h44i
      have heq := HEQ.out
      have hgd : Try.prog.eqGuardType Try.prog.depth 50 = false := by kernel_rfl
      have tok : True := trivial
      have h44i := HN44.out
      go_upto_region 14 with (first
        | (go_at_call 34; have _t := tok; (with_reducible refine (HRc2.out _ hB3 HCL.out).mono ?_); rintro e w4 ⟨rfl, hb4⟩; have hR4 := hR3.go hb4; have hR5 := hR4.new Z.toArray 50; clear tok _t)
        | (go_at_call 34; (with_reducible refine (HRr.out _ (HXX.out.below hR6.below)).mono ?_); rintro e w7 ⟨rfl, hb7⟩; have hR7 := hR6.go hb7; have hR8 := hR7.new Z.toArray 50)
        | (refine wpList_store_mid rfl 50 _ _ rfl w4.heap.size 0 L.toArray rfl rfl ((hR5.get (b := w4.heap.size) (L := Z.toArray.toList) (by simp)).thereA HZL.out) HIA.out H1A.out ?_; obtain ⟨w6, hw6⟩ : ∃ w6, w6 = (w4.alloc (.cells Z.toArray 50)).setCells w4.heap.size 0 L.toArray.toList := ⟨_, rfl⟩; have hR6 := hR5.storeA HZL.out; rw [← hw6] at hR6; rw [← hw6]; clear hw6 hR5)
        | (refine wpList_store_mid rfl 50 _ _ rfl w7.heap.size 0 M.toArray rfl rfl ((hR8.get (b := w7.heap.size) (L := Z.toArray.toList) (by simp)).thereA HZM.out) HIMA.out H1M.out ?_; obtain ⟨w9, hw9⟩ : ∃ w9, w9 = (w7.alloc (.cells Z.toArray 50)).setCells w7.heap.size 0 M.toArray.toList := ⟨_, rfl⟩; have hR9 := hR8.storeA HZM.out; rw [← hw9] at hR9; rw [← hw9]; clear hw9 hR8; have hA9 := hR9.get (b := w7.heap.size) (L := M.toArray.toList) (by simp); have hB9 := hR9.get (b := w4.heap.size) (L := L.toArray.toList) (by simp); have hC9 := hR9.get (b := xb) (L := L) (by simp); rw [List.toList_toArray] at hA9 hB9)
        | (refine wpList_load_g rfl 50 _ rfl w4.heap.size 0 rfl L _ hB9.1 Try.underlying50 rfl HI.out ?_)
        | (refine wpList_load_g rfl 50 _ rfl xb 0 rfl L _ hC9.1 Try.underlying50 rfl HI.out ?_))
      have hX9 := HXX.out.below hR9.below
      clear heq h44i hR3 hR7 hA9 hB9 hC9
      refine wp_region_front 11 [61, 62, 63, 64, 65, 66, 67, 68, 69, 70, 4] 0 #[true, true, true, true, true, true, true, true, true, true, true] (fun W => Rows w [(w7.heap.size, M.toArray.toList), (w4.heap.size, L.toArray.toList), (xb, L)] W ∧ Bs W (.slice A n c) raw) (cmG M raw) yesP (by kernel_rfl) (by kernel_rfl) (by kernel_rfl) (by kernel_rfl) (by kernel_rfl) (fun _ _ hb h => ⟨h.1.go hb, h.2.below hb⟩) cmG_below ⟨hR9.drew, hX9.below (Below.refl _ _).drew⟩ ?_ ?_
      · intro i hi s w10 hs hB hd
        have s1 : s 1 = .slice A n c := hs 1 (by decide)
        have s8 : s 8 = .pointer (some ⟨w7.heap.size, 0, none⟩) := hs 8 (by decide)
        have s9 : s 9 = .int .i64 0 := hs 9 (by decide)
        have hA := hB.1.get (b := w7.heap.size) (L := M.toArray.toList) (by simp)
        rw [List.toList_toArray] at hA
        obtain rfl | rfl | rfl | rfl | rfl | rfl | rfl | rfl | rfl | rfl | rfl : i = 0 ∨ i = 1 ∨ i = 2 ∨ i = 3 ∨ i = 4 ∨ i = 5 ∨ i = 6 ∨ i = 7 ∨ i = 8 ∨ i = 9 ∨ i = 10 := by omega
        · exact stepG_plain (by rfl) (stepS_move _ rfl ⟨Below.refl _ _, s9, fun j _ _ u _ => ⟨trivial, trivial⟩⟩)
        · have h0 : s 61 = .int .i64 0 := hd 0 (by decide +kernel)
          refine stepG_plain (by rfl) (stepS_run (v := .bool true) ?_ ⟨Below.refl _ _, rfl, fun j _ _ u _ => ⟨trivial, trivial⟩⟩)
          simp [execOp, evS, h0, go_sem]
        · have h1 : s 62 = .bool true := hd 1 (by decide +kernel)
          exact stepG_plain (by rfl) (stepS_move _ rfl ⟨Below.refl _ _, h1, fun j _ _ u _ => ⟨trivial, trivial⟩⟩)
        · have h2 : s 63 = .bool true := hd 2 (by decide +kernel)
          exact stepG_struck (b := true) (g := 2) (by rfl) h2 (stepS_load rfl s8 hA Try.underlying50 rfl HIM.out ⟨Below.refl _ _, rfl, fun j _ _ u _ => ⟨trivial, trivial⟩⟩)
        · have h2 : s 63 = .bool true := hd 2 (by decide +kernel)
          have h3 : s 64 = .agg M.toArray := hd 3 (by decide +kernel)
          refine stepG_struck (b := true) (g := 2) (by rfl) h2 (stepS_call rfl Try.func23 (by kernel_rfl) (by kernel_rfl) #[.agg M.toArray] (by simp [evS, h3]) ((HWr.out w10).mono ?_))
          rintro e w11 ⟨v, rfl, hf, hb11⟩
          obtain ⟨A5, c5, e5, _⟩ := hf.1
          exact ⟨_, rfl, hb11, ⟨A5, _, c5, e5, e5 ▸ hf.1⟩, fun j _ _ u _ => ⟨trivial, trivial⟩⟩
        · have h2 : s 63 = .bool true := hd 2 (by decide +kernel)
          obtain ⟨A3, n3, c3, h3, h4⟩ : BsV raw (s 65) w10 := hd 4 (by decide +kernel)
          refine stepG_struck (b := true) (g := 2) (by rfl) h2 (stepS_run (v := .string (str raw)) ?_ ⟨Below.refl _ _, rfl, fun j _ _ u _ => ⟨trivial, trivial⟩⟩)
          simp [execOp, evS, h3, run_str h4, Result.andThen]
        · have h2 : s 63 = .bool true := hd 2 (by decide +kernel)
          exact stepG_struck (b := true) (g := 2) (by rfl) h2 (stepS_move _ rfl ⟨Below.refl _ _, by show BsV raw (s 1) w10; rw [s1]; exact ⟨_, _, _, rfl, hB.2⟩, fun j _ _ u _ => ⟨trivial, trivial⟩⟩)
        · have h2 : s 63 = .bool true := hd 2 (by decide +kernel)
          obtain ⟨A3, n3, c3, h3, h4⟩ : BsV raw (s 67) w10 := hd 6 (by decide +kernel)
          refine stepG_struck (b := true) (g := 2) (by rfl) h2 (stepS_run (v := .string (str raw)) ?_ ⟨Below.refl _ _, rfl, fun j _ _ u _ => ⟨trivial, trivial⟩⟩)
          simp [execOp, evS, h3, run_str h4, Result.andThen]
        · have h2 : s 63 = .bool true := hd 2 (by decide +kernel)
          have h5 : s 66 = .string (str raw) := hd 5 (by decide +kernel)
          have h7 : s 68 = .string (str raw) := hd 7 (by decide +kernel)
          refine stepG_struck (b := true) (g := 2) (by rfl) h2 (stepS_run (v := .bool true) ?_ ⟨Below.refl _ _, rfl, fun j _ _ u _ => ⟨trivial, trivial⟩⟩)
          simp [execOp, evS, h5, h7, go_sem]
        · have h2 : s 63 = .bool true := hd 2 (by decide +kernel)
          have h8 : s 69 = .bool true := hd 8 (by decide +kernel)
          refine stepG_plain (by rfl) (stepS_run (v := .bool true) ?_ ⟨Below.refl _ _, rfl, fun j _ _ u _ => ⟨trivial, trivial⟩⟩)
          simp [execOp, evS, h2, h8, go_sem]
        · have h9 : s 70 = .bool true := hd 9 (by decide +kernel)
          exact stepG_plain (by rfl) (stepS_assign _ rfl ⟨Below.refl _ _, h9, fun j _ _ u _ => ⟨trivial, trivial⟩⟩)
      · intro s w10 hB hF hP
        have h4 : s 4 = .bool true := hF 10 (by decide)
        refine wpAny_end (by kernel_rfl) ?_
        simp only [setAll, List.foldl_cons, List.foldl_nil, List.setIfInBounds_toArray, List.set_cons_succ, List.set_cons_zero, h4]
        clear hF hP h4
        go_wp2_with fail
        go_ret
        exact ⟨rfl, hB.1.below⟩
    · have HRb := Lib.hid (fun W => rcommit_bad A n c W h44)
      rw [← HZE.out] at HRb
      have hcells : ∀ e l s, cmtC e l s = (cmtL e l s).toArray := fun e l s => (cmtL_arr e l s).symm
      have heq0 := fun w => commit_eql 0 (List.replicate 32 0) 0 0 (List.replicate 32 0) 0 (by decide) (by decide) (by omega) (by omega) (by omega) (by omega) w
      rw [hcells, show cmtL 0 (List.replicate 32 0) 0 = Z from HZE.out.symm] at heq0
      simp only [and_self, decide_true] at heq0
      have HIZ := Lib.hid (show (Try.prog.info? 50).map (·.size) = some Z.length by rw [HZl.out]; exact rc_info)
      have HIMA := Lib.hid (show (Try.prog.info? 50).map (·.size) = some Z.toArray.size by rw [List.size_toArray, HZl.out]; exact rc_info)
      have H1M : Hid (Z.toArray.all (·.oneCell') = true) := Lib.hid (all_oneCell_toArray (by rw [HZE.out]; exact cmtL_one _ _ _))
      have HZM : Hid (Z.toArray.size = Z.toArray.toList.length) := Lib.hid (by simp)
      have hn44 : ¬ (n : Int) = 44 := by omega
      clear h44 hcells
      have heq := HEQ.out
      have hgd : Try.prog.eqGuardType Try.prog.depth 50 = false := by kernel_rfl
      have tok : True := trivial
      go_wp2_with (first
        | (go_at_call 34; have _t := tok; (with_reducible refine (HRc2.out _ hB3 HCL.out).mono ?_); rintro e w4 ⟨rfl, hb4⟩; have hR4 := hR3.go hb4; have hR5 := hR4.new Z.toArray 50; clear tok _t)
        | (go_at_call 34; (with_reducible refine (HRb.out _).mono ?_); rintro e w7 ⟨rfl, hb7⟩; have hR7 := hR6.go hb7; have hR8 := hR7.new Z.toArray 50)
        | (refine wpList_store_mid rfl 50 _ _ rfl w4.heap.size 0 L.toArray rfl rfl ((hR5.get (b := w4.heap.size) (L := Z.toArray.toList) (by simp)).thereA HZL.out) HIA.out H1A.out ?_; obtain ⟨w6, hw6⟩ : ∃ w6, w6 = (w4.alloc (.cells Z.toArray 50)).setCells w4.heap.size 0 L.toArray.toList := ⟨_, rfl⟩; have hR6 := hR5.storeA HZL.out; rw [← hw6] at hR6; rw [← hw6]; clear hw6 hR5)
        | (refine wpList_store_mid rfl 50 _ _ rfl w7.heap.size 0 Z.toArray rfl rfl ((hR8.get (b := w7.heap.size) (L := Z.toArray.toList) (by simp)).thereA HZM.out) HIMA.out H1M.out ?_; obtain ⟨w9, hw9⟩ : ∃ w9, w9 = (w7.alloc (.cells Z.toArray 50)).setCells w7.heap.size 0 Z.toArray.toList := ⟨_, rfl⟩; have hR9 := hR8.storeA HZM.out; rw [← hw9] at hR9; rw [← hw9]; clear hw9 hR8; have hA9 := hR9.get (b := w7.heap.size) (L := Z.toArray.toList) (by simp); have hB9 := hR9.get (b := w4.heap.size) (L := L.toArray.toList) (by simp); have hC9 := hR9.get (b := xb) (L := L) (by simp); rw [List.toList_toArray] at hA9 hB9)
        | (refine wpList_load_g rfl 50 _ rfl w4.heap.size 0 rfl L _ hB9.1 Try.underlying50 rfl HI.out ?_)
        | (refine wpList_load_g rfl 50 _ rfl xb 0 rfl L _ hC9.1 Try.underlying50 rfl HI.out ?_)
        | (refine wpList_load_g rfl 50 _ rfl w7.heap.size 0 rfl Z _ hA9.1 Try.underlying50 rfl HIZ.out ?_))
      go_ret
      exact ⟨rfl, hR9.below⟩
theorem nodeCommits_int (ep : Int) (live : List UInt8) (sum : Int) (A : Option Addr) (n c : Nat) (raw : List UInt8) (w : World) (hl : live.length = 32) (h0 : 0 ≤ ep) (he : ep < 18446744073709551616) (h1 : 0 ≤ sum) (hs : sum < 4294967296) (hX : Bs w (.slice A n c) raw) :
    Calls Try.prog 12 #[.agg (cmtC ep live sum), .slice A n c] w fun e w' => e = .returned (.bool true) ∧ Below w.heap.size w w' := by
  obtain ⟨E, rfl⟩ := Int.eq_ofNat_of_zero_le h0
  obtain ⟨S, rfl⟩ := Int.eq_ofNat_of_zero_le h1
  rw [← cmtL_arr]
  exact nodeCommits_walk E live S A n c raw w hl (by omega) (by omega) hX
end Go.Proofs.YtljdfhckllncoaaK
