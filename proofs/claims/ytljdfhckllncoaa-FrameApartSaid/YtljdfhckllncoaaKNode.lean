import Derived.Test.YtljdfhckllncoaaKPackBk
import Derived.Deep.RegionHeld3
namespace Go.Proofs.YtljdfhckllncoaaK
open Go.RowKit
set_option linter.unusedSimpArgs false
set_option linter.unusedVariables false
/-- A node's bytes. -/
def nodeB (k ep : Nat) (bs : List UInt8) : List UInt8 := numB 1 k ++ (numB 8 ep ++ bs)
theorem nodeB_length (k ep : Nat) (bs : List UInt8) : (nodeB k ep bs).length = 9 + bs.length := by
  unfold nodeB
  rw [List.length_append, List.length_append, numB_length, numB_length]; omega
theorem Fresh.mono {B B' : Nat} {w : World} {v : Value} {bs : List UInt8} (h : Fresh B w v bs) (hB : B' ≤ B) : Fresh B' w v bs :=
  ⟨h.1, fun hne => by obtain ⟨g, c, hv, hg, hf⟩ := h.2 hne; exact ⟨g, c, hv, Nat.le_trans hB hg, hf⟩⟩
theorem write_neg (k ep : Int) (A : Option Addr) (n c : Nat) (w : World) (h : k < 0 ∨ 256 ≤ k ∨ 224 < n) :
    Calls Try.prog 21 #[.agg #[.int .i64 k, .int .u64 ep, .slice A n c]] w fun e w' => e = .returned (.tuple #[.slice none 0 0, .int .i64 1]) ∧ Below w.heap.size w w' := by
  by_cases h1 : k < 0
  · clear h
    go_enter Try.func21, Try.ntmps21
    go_wp2
    go_ret2
    exact ⟨rfl, (Below.refl _ _).alloc (Nat.le_refl _) _⟩
  by_cases h2 : 256 ≤ k
  · clear h
    go_enter Try.func21, Try.ntmps21
    go_wp2
    go_ret2
    exact ⟨rfl, (Below.refl _ _).alloc (Nat.le_refl _) _⟩
  have h3 : 224 < n := by omega
  clear h
  go_enter Try.func21, Try.ntmps21
  go_wp2
  go_ret2
  exact ⟨rfl, (Below.refl _ _).alloc (Nat.le_refl _) _⟩
set_option maxRecDepth 10000 in
set_option maxHeartbeats 2000000 in
theorem write_ok (k ep : Nat) (A : Option Addr) (n c : Nat) (bs : List UInt8) (w : World) (hk : k < 256) (he : ep < 18446744073709551616) (hn : n ≤ 224) (hX : Bs w (.slice A n c) bs) :
    Calls Try.prog 21 #[.agg #[.int .i64 (k : Int), .int .u64 (ep : Int), .slice A n c]] w fun e w' => ∃ v, e = .returned (.tuple #[v, .int .i64 0]) ∧ Fresh w.heap.size w' v (nodeB k ep bs) ∧ Below w.heap.size w w' := by
  have HNum := Lib.hid (fun W (s : Int) (N : Nat) h => num_any s N W h)
  have HJ := Lib.hid (fun W A n c xss h h1 h2 => pjoin_any A n c xss W h h1 h2)
  have HL := Lib.hid hX.len
  have hk0 : (0 : Int) ≤ k := by omega
  have e1 : IntKind.u64.wrap (k : Int) = k := by rw [IntKind.wrap_u64]; omega
  have tok : True := trivial
  go_enter Try.func21, Try.ntmps21
  go_wp2
  obtain ⟨xb, hxb⟩ : ∃ xb, xb = w.heap.size := ⟨_, rfl⟩
  obtain ⟨W, hW⟩ : ∃ W, W = w.alloc (.cells #[.int .i64 (k : Int), .int .u64 (ep : Int), .slice A n c] 45) := ⟨_, rfl⟩
  have hb0 : Below w.heap.size w W := by rw [hW]; exact (Below.refl _ _).alloc (Nat.le_refl _) _
  have hrow : W.heap[xb]? = some (.cells #[.int .i64 (k : Int), .int .u64 (ep : Int), .slice A n c] 45 (0, 0)) := by rw [hW, hxb]; exact heap_alloc_new w _
  have x0 : W.cell? ⟨xb, 0, none⟩ = some (.int .i64 (k : Int)) := cell_of_row _ _ 0 _ _ _ hrow
  have x1 : W.cell? ⟨xb, 1, none⟩ = some (.int .u64 (ep : Int)) := cell_of_row _ _ 1 _ _ _ hrow
  have x2 : W.cell? ⟨xb, 2, none⟩ = some (.slice A n c) := cell_of_row _ _ 2 _ _ _ hrow
  rw [← hW, ← hxb]
  have hX0 := (hX.below hb0)
  clear hW hxb hrow
  have hbd := hb0.drew
  have hXd := hX0.below (Below.refl W.heap.size W).drew
  have hlens : Lib.lens [numB (wid 1) k, numB (wid 8) ep, bs] ≤ 140737488355328 := by rw [lens3, numB_length, numB_length, ← HL.out]; have := wid_le 1; have := wid_le 8; omega
  have HLens := Lib.hid hlens
  clear hlens

  go_region_held3 (fun w' => w'.cell? ⟨xb, 0, none⟩ = some (.int .i64 (k : Int)) ∧ w'.cell? ⟨xb, 1, none⟩ = some (.int .u64 (ep : Int)) ∧ w'.cell? ⟨xb, 2, none⟩ = some (.slice A n c)) (first | exact ⟨x0, x1, x2⟩ | exact ⟨cell_later hb2 (cell_later hb1 x0), cell_later hb2 (cell_later hb1 x1), cell_later hb2 (cell_later hb1 x2)⟩ | exact ⟨cell_later hb1 x0, cell_later hb1 x1, cell_later hb1 x2⟩ | assumption | exact ⟨cell_later ((Below.refl _ _).alloc (Nat.le_refl _) _) (cell_later hb2 (cell_later hb1 x0)), cell_later ((Below.refl _ _).alloc (Nat.le_refl _) _) (cell_later hb2 (cell_later hb1 x1)), cell_later ((Below.refl _ _).alloc (Nat.le_refl _) _) (cell_later hb2 (cell_later hb1 x2))⟩ | exact ⟨cell_later hb3 (cell_later ((Below.refl _ _).alloc (Nat.le_refl _) _) (cell_later hb2 (cell_later hb1 x0))), cell_later hb3 (cell_later ((Below.refl _ _).alloc (Nat.le_refl _) _) (cell_later hb2 (cell_later hb1 x1))), cell_later hb3 (cell_later ((Below.refl _ _).alloc (Nat.le_refl _) _) (cell_later hb2 (cell_later hb1 x2)))⟩)
    ((first
      | (go_at_call 36; have _t := tok; refine (HNum.out _ 1 k (by omega)).mono ?_; rintro e w1 ⟨v1, rfl, ho1, hb1⟩; have hq1 := hbd.trans (hb1.mono hbd.size); obtain ⟨A5, c5, rfl, _, _⟩ := own_form ho1; have hX1 := hXd.below hb1; clear _t tok)
      | (go_at_call 36; refine (HNum.out _ 8 ep he).mono ?_; rintro e w2 ⟨v2, rfl, ho2, hb2⟩; have hq2 := hq1.trans (hb2.mono hq1.size); obtain ⟨A6, c6, rfl, _, _⟩ := own_form ho2; have hX2 := hX1.below hb2)
      | (go_at_call 35; refine (HJ.out _ _ _ _ _ (Bss.new3 (by first | rfl | simp) (((own_bs ho1).2).below hb2) (own_bs ho2).2 hX2) (by omega) HLens.out).mono ?_; rintro e w3 ⟨v3, rfl, ho3, hb3⟩; have hq3 := (hq2.alloc hq2.size _).trans (hb3.mono (hq2.alloc hq2.size _).size))))
  all_goals
    go_wp2
    go_ret2
    refine ⟨v3, rfl, ?_, hq3⟩
    have hf := ho3.mono (B' := w.heap.size) (by have := hq2.size; simp; omega)
    have e3 : [numB (wid 1) k, numB (wid 8) ep, bs].flatten = nodeB k ep bs := by show _ = numB 1 k ++ (numB 8 ep ++ bs); rw [show wid 1 = 1 from rfl, show wid 8 = 8 from rfl]; simp
    rw [e3] at hf
    exact hf
end Go.Proofs.YtljdfhckllncoaaK
